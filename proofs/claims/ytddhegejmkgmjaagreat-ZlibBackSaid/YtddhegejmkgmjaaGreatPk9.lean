/-
  part
-/
import Derived.Test.YtddhegejmkgmjaaGreatPk8
import Derived.Test.YtddhegejmkgmjaaGreatSound
set_option linter.unusedVariables false
set_option maxRecDepth 100000
set_option maxHeartbeats 4000000
namespace Go.Proofs.YtddhegejmkgmjaaGreat
open Go.RowKit
def oN (l:List Int) (i:Nat):List Int:=l.set i (ix l i+1)
theorem pX (l:List Int) (i:Nat):(oN l i).length=l.length:=by simp [oN]
theorem MS (l:List Int) (i:Nat) (v:Int) (j:Nat):ix (l.set i v) j=if i=j/\j<l.length then v else ix l j:=by
 unfold ix;simp only [List.getD_eq_getElem?_getD,List.getElem?_set];by_cases h:i=j
 · subst h;by_cases a:i<l.length
   · simp [a]
   · simp [a]
 · simp [h]
theorem dL (l:List Int) (i j:Nat):ix (oN l i) j=if i=j/\j<l.length then ix l j+1 else ix l j:=by
 unfold oN;rw[MS];by_cases h:i=j/\j<l.length
 · rw[if_pos h,if_pos h,h.1]
 · rw[if_neg h,if_neg h]
def I4 (p:List Int×List Int) (t:aF):List Int×List Int:=
 if t.len=0 then(oN p.1 t.lit.toNat,p.2)else(oN p.1 (257+ej t.len),oN p.2 (bO t.ak))
def VK:List Int×List Int:=(zrI 286 256,List.replicate 30 0)
where zrI (n k:Nat):List Int:=(List.replicate n (0:Int)).set k 1
def fk (l:List aF):List Int×List Int:=l.foldl I4 VK
theorem jB (l:List aF) (t:aF):fk (l++[t])=I4 (fk l) t:=by simp [fk]
theorem MR {l:List aF} {k:Nat} (h:k<l.length):fk (l.take (k+1))=I4 (fk (l.take k)) (bq l k):=by rw[qJ h,jB]
theorem zn:fk []=VK:=rfl
theorem fu {α β:Type} {motive:List α->Prop} (d:motive []) (c:∀l t,motive l->motive (l++[t])) (l:List α):motive l:=by
 rw[<-List.reverse_reverse l]
 induction l.reverse with
 | nil=>exact d
 | cons a r b=>rw[List.reverse_cons];exact c _ _ b
theorem iy (l:List aF):(fk l).1.length=286/\(fk l).2.length=30:=by
 refine fu (β:=Nat) (motive:=λl=>(fk l).1.length=286/\(fk l).2.length=30) ?_ ?_ l
 · exact⟨(List.length_set ..).trans List.length_replicate,List.length_replicate⟩
 · intro l t h;rw[jB];unfold I4
   split
   · exact⟨by rw[pX];exact h.1,h.2⟩
   · exact⟨by rw[pX];exact h.1,by rw[pX];exact h.2⟩
theorem xE (l:List aF):∀i,(0<=ix (fk l).1 i/\ix (fk l).1 i<=l.length+1)/\(0<=ix (fk l).2 i/\ix (fk l).2 i<=l.length):=by
 refine fu (β:=Nat) (motive:=λl=>∀i,(0<=ix (fk l).1 i/\ix (fk l).1 i<=l.length+1)/\(0<=ix (fk l).2 i/\ix (fk l).2 i<=l.length)) ?_ ?_ l
 · intro i;rw[zn];unfold VK VK.zrI;rw[MS]
   have a:∀n i:Nat,ix (List.replicate n (0:Int)) i=0:=λn i=>by
    unfold ix;rw[List.getD_eq_getElem?_getD,List.getElem?_replicate]
    split <;> rfl
   rw[a,a]
   split <;> simp
 · intro l t h i;rw[jB,List.length_append,List.length_singleton];unfold I4;have hi:=h i
   split
   · simp only;rw[dL]
     split <;> omega
   · simp only;rw[dL,dL]
     split <;> split <;> omega
theorem VL (l:List aF):1<=ix (fk l).1 256:=by
 refine fu (β:=Nat) (motive:=λl=>1<=ix (fk l).1 256) ?_ ?_ l
 · rw[zn];decide+kernel
 · intro l t h;rw[jB];unfold I4
   split
   · simp only;rw[dL];split <;> omega
   · simp only;rw[dL];split <;> omega
def Rl (t:aF):Nat:=(if 3<=t.len/\t.len<=258 then lE (ej t.len)else 0)+(if 1<=t.ak/\t.ak<=32768 then dE (bO t.ak)else 0)
def wu (l:List aF):Nat:=(l.map Rl).sum
theorem MJ {l:List aF} {k:Nat} (h:k<l.length):wu (l.take (k+1))=wu (l.take k)+Rl (bq l k):=by rw[qJ h];simp [wu]
theorem MI (t:aF):Rl t<=18:=by
 unfold Rl
 have b:(if 3<=t.len/\t.len<=258 then lE (ej t.len)else 0)<=5:=by
  split
  · rename_i h;exact(CW (ej t.len) (by have:=(iB h.1).1;omega)).2.2
  · omega
 have a:(if 1<=t.ak/\t.ak<=32768 then dE (bO t.ak)else 0)<=13:=by
  split
  · rename_i h;exact(Fc (bO t.ak) (by have:=(fT h.1).1;omega)).2.2
  · omega
 omega
theorem ze:∀l:List aF,wu l<=18*l.length
 | []=>by simp [wu]
 | t::l=>by
   have b:=MI t;have a:=ze l;show Rl t+wu l<=_
   rw[List.length_cons];omega
theorem Jq {n:Int} {v:Value} (h:eI lB lE 3 258 257 28 n v):∃a b:Int,v= .tuple #[.int .i64 a, .int .i64 ((if 3<=n/\n<=258 then lE (ej n)else 0:Nat):Int), .int .i64 b]:=by
 by_cases c:3<=n/\n<=258
 · rw[if_pos c];exact⟨_,_,ug h c⟩
 · rw[if_neg c];rcases h with ⟨_,h⟩ | ⟨h,_⟩
   · exact⟨0,0,h⟩
   · exact absurd h c
theorem F3 {n:Int} {v:Value} (h:eI dB dE 1 32768 0 29 n v):∃a b:Int,v= .tuple #[.int .i64 a, .int .i64 ((if 1<=n/\n<=32768 then dE (bO n)else 0:Nat):Int), .int .i64 b]:=by
 by_cases c:1<=n/\n<=32768
 · rw[if_pos c];exact⟨_,_,qZ h c⟩
 · rw[if_neg c];rcases h with ⟨_,h⟩ | ⟨h,_⟩
   · exact⟨0,0,h⟩
   · exact absurd h c
def bh (kind:Int) (a8:List aF) (m:Nat):Bool:=
 if kind=0 then decide (m<=65535)else if¬(kind=1\/kind=2)\/1048576<=a8.length then false else a8.all λt=>decide (aH t)
theorem EX {a8:List aF} (h:∀i,i<a8.length->aH (bq a8 i)):(a8.all λt=>decide (aH t))=true:=by
 rw[List.all_eq_true];intro t ht;obtain⟨i,hi,rfl⟩ :=List.getElem_of_mem ht;have:=h i hi;have e:bq a8 i=a8[i]:=by simp [bq,hi]
 rw[e]at this;exact decide_eq_true this
theorem C6 {a8:List aF} {i:Nat} (hi:i<a8.length) (h:¬aH (bq a8 i)):(a8.all λt=>decide (aH t))=false:=by
 rw[List.all_eq_false];have e:bq a8 i=a8[i]:=by simp [bq,hi]
 rw[e]at h;exact⟨a8[i],List.getElem_mem hi,by simpa using h⟩
theorem lN (w:World) (kind:Int) (At:Option Addr) (nt ct:Nat) (a8:List aF) (j:ig w w.heap.size At nt a8) (U:(nt:Int)<=4611686018427387904) (Ar:Option Addr) (m cr:Nat):
  Calls Tryz.prog 69 #[.int .i64 kind, .slice At nt ct, .slice Ar m cr] w λe w'=>e= .returned (.bool (bh kind a8 m))/\Below w.heap.size w w':=by
 have d:=j.1;by_cases x:kind=0
 · subst x;have hv:bh 0 a8 m=decide (m<=65535):=by unfold bh;rw[if_pos rfl]
   rw[hv];clear hv j d;by_cases W:m<=65535
   · have O:(m:Int)<=65535:=ω;go_enter Tryz.func69,Tryz.ntmps69
     go_wp2_with fail
     go_ret
     exact⟨ξ,Below.refl _ _⟩
   · have O:¬(m:Int)<=65535:=ω;go_enter Tryz.func69,Tryz.ntmps69
     go_wp2_with fail
     go_ret
     exact⟨σ,Below.refl _ _⟩
 · have S:(kind==0)=false:=by simpa using x
   by_cases g:¬(kind=1\/kind=2)\/1048576<=a8.length
   · have hv:bh kind a8 m=false:=by unfold bh;rw[if_neg x,if_pos g]
     rw[hv];rw[<-d]at g;by_cases I:kind=1
     · subst I;have A:(1048576:Int)<=(nt:Int):=ω;have f:1048576<=nt:=ω;clear hv j d g;go_enter Tryz.func69,Tryz.ntmps69
       go_wp2_with fail
       go_ret
       exact⟨σ,Below.refl _ _⟩
     · have Y:(kind==1)=false:=by simpa using I
       by_cases H:kind=2
       · subst H;have A:(1048576:Int)<=(nt:Int):=ω;have f:1048576<=nt:=ω;clear hv j d g;go_enter Tryz.func69,Tryz.ntmps69
         go_wp2_with fail
         go_ret
         exact⟨σ,Below.refl _ _⟩
       · have R:(kind==2)=false:=by simpa using H
         clear hv j d g;go_enter Tryz.func69,Tryz.ntmps69
         go_wp2_with fail
         go_ret
         exact⟨σ,Below.refl _ _⟩
   · have hv:bh kind a8 m=a8.all λt=>decide (aH t):=by unfold bh;rw[if_neg x,if_neg g]
     have J:=η hv;have B:kind=1\/kind=2:=ω;have A:¬(1048576:Int)<=(nt:Int):=ω;have f:¬1048576<=nt:=ω;have V:decide (1048576<=nt)=false:=decide_eq_false f;have M:decide ((1048576:Int)<=(nt:Int))=false:=decide_eq_false A;have G:=η (⟨j,d⟩ :_/\_);have T:(0:Int)<=(nt:Int):=ω;clear hv j d g;rcases B with rfl | rfl
     all_goals
      go_enter Tryz.func69,Tryz.ntmps69
      go_wp2_with fail
      go_loopg [27] nt (λ(gk:Nat) (v27:Value) wx=>∃k:Nat,v27= .int .i64 k/\k<=nt/\Hid (∀i,i<k->aH (bq a8 i))/\Hid (Below w.heap.size w wx)/\Hid (gk=nt-k))
      case atStart=>exact⟨0,rfl,Nat.zero_le _,λi hi=>absurd hi (Nat.not_lt_zero _),Below.refl _ _,rfl⟩
      case round=>
       obtain⟨k,rfl,X,b,v,Q⟩ :=hrel;by_cases a:k<nt
       · have P:(k:Int)<(nt:Int)/\(0:Int)<=(k:Int):=ω;obtain⟨q,hA,C,o⟩ :=(G.out.1.below v.out).2 ω;obtain⟨F,z,y⟩ :=o k a;rw[gp _ _ _ ω]at z y;obtain⟨⟨l,N,D⟩,ht⟩ :∃t:aF,bq a8 k=t:= ⟨_,rfl⟩;rw[ht]at F z y;replace F:wr.cell? (q.add (k*3))=some (.int .u8 l):=F;replace z:wr.cell? { block:=(q.add (k*3)).block,off:=(q.add (k*3)).off+1 }=some (.int .i64 N):=z;replace y:wr.cell? { block:=(q.add (k*3)).block,off:=(q.add (k*3)).off+2 }=some (.int .i64 D):=y;have r:=η (⟨ht,a⟩ :_/\_);subst hA;clear C o ht a;have u:=η (v.out.alloc v.out.size (.cells #[.int .u8 l, .int .i64 N, .int .i64 D] 90));by_cases c:lW l N D=true
         · have n:aH (bq a8 k):=by rw[r.out.1];rw[vJ]at c;exact of_decide_eq_true c
           have s:=η n;clear n
           go_wp2_with fail
           refine(yg l N D _).mono ?_;rintro e K ⟨rfl,p⟩;rw[c];have E:=η (u.out.trans (p.mono u.out.size));clear p
           go_wp2_with fail
           go_roundg (nt-(k+1))
           case measure=>have:=Q.out;have:=r.out.2;omega
           case rel=>exact⟨k+1,by go_num,r.out.2,λi hi=>by
            by_cases e:i=k
            · subst e;exact s.out
            · exact b.out i ω,E,rfl⟩
         · have L:lW l N D=false:=by simpa using c
           have n:¬aH (bq a8 k):=λh=>by rw[r.out.1]at h;rw[vJ]at c;exact c (decide_eq_true h)
           have s:=η (J.out.trans (C6 (by rw[<-G.out.2];exact r.out.2) n));clear n c
           go_wp2_with fail
           refine(yg l N D _).mono ?_;rintro e K ⟨rfl,p⟩;rw[L];have E:=η (u.out.trans (p.mono u.out.size));clear p
           go_wp2_with fail
           go_ret
           exact⟨qE s.out.symm,E.out⟩
       · obtain rfl:k=nt:=ω;have P:¬(k:Int)<(k:Int):=ω;have s:=η (J.out.trans (EX (λi hi=>b.out i (by rw[G.out.2];exact hi))));clear a
         go_wp2_with fail
         go_ret
         exact⟨qE s.out.symm,v.out⟩
theorem iF:(Tryz.prog.info? 3).map (λi=>(i.zero,i.size,i.bytes))=some (some (.int .i64 0),1,8):=by kernel_rfl
def QG (w:World) (e:Ending) (w':World):Prop:=
 ∃A c A' c',e= .returned (.tuple #[.slice A 288 c, .slice A' 32 c'])/\ag .i64 w' w.heap.size 3 A 288 c cY/\ag .i64 w' w.heap.size 3 A' 32 c' dP/\Below w.heap.size w w'
def a2T (w:World) (l i:Value) (wr:World):Prop:=∃(k c:Nat) (A:Option Addr),k<=288/\i= .int .i64 k/\l= .slice A k c/\ag .i64 wr w.heap.size 3 A k c (cY.take k)/\Below w.heap.size w wr
def a2U (w:World) (a:Option Addr) (b c0:Nat) (l i:Value) (wr:World):Prop:=∃(k c:Nat) (A:Option Addr),k<=32/\i= .int .i64 k/\l= .slice A k c/\ag .i64 wr w.heap.size 3 A k c (dP.take k)/\ag .i64 wr w.heap.size 3 a b c0 cY/\(∀q,aa A=some q->aa a≠some q)/\Below w.heap.size w wr
theorem kF:cY.length=288:=by decide+kernel
theorem uu:dP.length=32:=by simp [dP]
theorem xD {k:Nat} (h:k<288):cY.take (k+1)=cY.take k++[ix cY k]:=by
 rw[List.take_succ_eq_append_getElem (by rw[kF];exact h)];simp [ix,List.getD_eq_getElem?_getD,List.getElem?_eq_getElem (show k<cY.length by rw[kF];exact h)]
theorem zj:∀k,k<288->ix cY k=if k<144 then 8 else if k<256 then 9 else if k<280 then 7 else 8:=by decide+kernel
theorem xC {k:Nat} (h:k<32):dP.take (k+1)=dP.take k++[5]:=by
 unfold dP;rw[List.take_replicate,List.take_replicate,Nat.min_eq_left ω,Nat.min_eq_left ω,List.replicate_succ']
theorem kH (w:World):Calls Tryz.prog 71 #[] w (QG w):=by
 obtain⟨p,hi,t,s,r⟩ :=info_parts iF;have Hi:=η hi;have B:=η t;have z:=η s;have y:=η r;clear hi t s r;go_enter Tryz.func71,Tryz.ntmps71
 go_wp2
 go_loopw [0,3] (a2T w) (λ_ i _=>288-(intOf i).toNat)
 case atStart=>exact⟨0,0,none,Nat.zero_le _,rfl,rfl,ag.br,Below.refl _ _⟩
 case round=>
  obtain⟨k,c,A,I,rfl,rfl,g,h⟩ :=hrel;by_cases a:k<288
  · have L:(k:Int)<288/\(0:Int)<=k:=ω;have ht:=xD a;rw[zj k a]at ht;have P:=h.size;have F:(k:Int)<144\/(¬(k:Int)<144/\(280:Int)<=k)\/(¬(k:Int)<144/\¬(280:Int)<=k/\(k:Int)<256)\/(¬(k:Int)<144/\¬(280:Int)<=k/\¬(k:Int)<256):=ω;rcases F with G | ⟨G,J⟩ | ⟨G,J,M⟩ | ⟨G,J,M⟩
    · rw[if_pos ω]at ht;have n:=η ht;clear ht;have m:=g.alloc (.cells #[.int .i64 8] 3);have f:=h.alloc h.size (.cells #[.int .i64 8] 3)
      go_wp2_with (at_builtin;(refine au .i64 w.heap.size 3 p 8 rfl (.tmp 16) (.tmp 17) _ rfl Tryz.underlying51 Hi.out B.out z.out y.out rfl m rfl (aT.lit .i64 wr [8] 3) ω ω f.size ?_)
                   intro o d4 C l b v)
      go_roundw
      case rel=>exact⟨k+1,d4,o,a,by go_num,rfl,by rw[n.out];exact l,f.grown b f.size λq j=>(g.2.lt j).1⟩
      case measure=>simp [intOf];omega
    · rw[if_neg ω,if_neg ω,if_neg ω]at ht;have n:=η ht;clear ht;have m:=g.alloc (.cells #[.int .i64 8] 3);have f:=h.alloc h.size (.cells #[.int .i64 8] 3)
      go_wp2_with (at_builtin;(refine au .i64 w.heap.size 3 p 8 rfl (.tmp 16) (.tmp 17) _ rfl Tryz.underlying51 Hi.out B.out z.out y.out rfl m rfl (aT.lit .i64 wr [8] 3) ω ω f.size ?_)
                   intro o d4 C l b v)
      go_roundw
      case rel=>exact⟨k+1,d4,o,a,by go_num,rfl,by rw[n.out];exact l,f.grown b f.size λq j=>(g.2.lt j).1⟩
      case measure=>simp [intOf];omega
    · rw[if_neg ω,if_pos ω]at ht;have n:=η ht;clear ht;have m:=g.alloc (.cells #[.int .i64 9] 3);have f:=h.alloc h.size (.cells #[.int .i64 9] 3)
      go_wp2_with (at_builtin;(refine au .i64 w.heap.size 3 p 8 rfl (.tmp 22) (.tmp 23) _ rfl Tryz.underlying51 Hi.out B.out z.out y.out rfl m rfl (aT.lit .i64 wr [9] 3) ω ω f.size ?_)
                   intro o d4 C l b v)
      go_roundw
      case rel=>exact⟨k+1,d4,o,a,by go_num,rfl,by rw[n.out];exact l,f.grown b f.size λq j=>(g.2.lt j).1⟩
      case measure=>simp [intOf];omega
    · rw[if_neg ω,if_neg ω,if_pos ω]at ht;have n:=η ht;clear ht;have m:=g.alloc (.cells #[.int .i64 7] 3);have f:=h.alloc h.size (.cells #[.int .i64 7] 3)
      go_wp2_with (at_builtin;(refine au .i64 w.heap.size 3 p 8 rfl (.tmp 6) (.tmp 7) _ rfl Tryz.underlying51 Hi.out B.out z.out y.out rfl m rfl (aT.lit .i64 wr [7] 3) ω ω f.size ?_)
                   intro o d4 C l b v)
      go_roundw
      case rel=>exact⟨k+1,d4,o,a,by go_num,rfl,by rw[n.out];exact l,f.grown b f.size λq j=>(g.2.lt j).1⟩
      case measure=>simp [intOf];omega
  · have E:Hid (k=288):=by show _=_;omega
    rw[List.take_of_length_le (by rw[kF];omega)]at g;have O:¬(k:Int)<288:=ω;obtain⟨D,K⟩ :∃D,D=k:= ⟨_,rfl⟩;subst K;clear a I;go_wp2
    go_loopw [1,26] (a2U w A D c) (λ_ i _=>32-(intOf i).toNat)
    case atStart=>exact⟨0,0,none,Nat.zero_le _,rfl,rfl,ag.br,g,by simp [aa],h⟩
    case round=>
     clear g h;obtain⟨k,d,A1,I,rfl,rfl,g,H,x,h⟩ :=hrel;by_cases a:k<32
     · have L:(k:Int)<32/\(0:Int)<=k:=ω;have n:=η (xC a);have m:=g.alloc (.cells #[.int .i64 5] 3);have u:=H.alloc (.cells #[.int .i64 5] 3);have f:=h.alloc h.size (.cells #[.int .i64 5] 3)
       go_wp2_with (at_builtin;(refine au .i64 w.heap.size 3 p 8 rfl (.tmp 28) (.tmp 29) _ rfl Tryz.underlying51 Hi.out B.out z.out y.out rfl m rfl (aT.lit .i64 wr [5] 3) ω ω f.size ?_)
                    intro o d4 C l b v)
       go_roundw
       case rel=>
        refine⟨k+1,d4,o,a,by go_num,rfl,by rw[n.out];exact l,u.grown b ?_,λq j e=> ?_,f.grown b f.size λq j=>(g.2.lt j).1⟩
        · cases N:aa A with
          | none=>exact .inr rfl
          | some q=>exact .inl λe=>x q e.symm N
        · rcases v with h4 | h4
          · exact x q (by rw[<-h4];exact j) e
          · have:=(u.2.lt e).2;rw[h4]at j;injection j with j;omega
       case measure=>simp [intOf];omega
     · obtain rfl:k=32:=ω;rw[List.take_of_length_le (by rw[uu];omega)]at g;go_wp2
       go_ret2
       have:=E.out;subst this;exact⟨A,c,A1,d,rfl,H,g,h⟩
section
variable {s t t':IS} {x y b:List Int} {n m:Nat}
theorem IS.yl (h:s.step.2=5):s.step.1=s:=by
 unfold IS.step at h⊢;have a:∀(s:IS) b,(s.emit b).2≠5:=λs b=>by unfold IS.emit;simp only;split <;> decide
 by_cases f:s.st=0
 · rw[if_pos f]at h⊢;unfold IS.block at h⊢;revert h;repeat' split
   all_goals simp
 rw[if_neg f]at h⊢;by_cases e:s.st=1
 · rw[if_pos e]at h⊢;unfold IS.size at h⊢;revert h;repeat' split
   all_goals simp
 rw[if_neg e]at h⊢;by_cases d:s.st=2
 · rw[if_pos d]at h⊢;unfold IS.stored at h⊢;revert h;repeat' split
   · simp
   · simp
   · intro h;exact absurd h (a _ _)
 rw[if_neg d]at h⊢;by_cases c:s.st=3
 · rw[if_pos c]at h⊢;unfold IS.sizes at h⊢;revert h;repeat' split
   all_goals simp
 rw[if_neg c]at h⊢;by_cases h4:s.st=4
 · rw[if_pos h4]at h⊢;unfold IS.heads at h⊢;revert h;repeat' split
   all_goals simp
 rw[if_neg h4]at h⊢;by_cases h5:s.st=5
 · rw[if_pos h5]at h⊢;unfold IS.lengths IS.length IS.fB at h⊢;revert h;repeat' split
   all_goals simp
 rw[if_neg h5]at h⊢;by_cases h6:s.st=6
 · rw[if_pos h6]at h⊢;unfold IS.token at h⊢;revert h;repeat' split
   all_goals first
    | (intro h;exact absurd h (a _ _))
    | simp
 rw[if_neg h6]at h⊢;by_cases h7:s.st=7
 · rw[if_pos h7]at h⊢;unfold IS.ak IS.text at h⊢;revert h;repeat' split
   all_goals first
    | (intro h;exact absurd h (a _ _))
    | simp
 rw[if_neg h7]at h⊢
theorem E9 (h:t.st=6):t.step=t.token:=by unfold IS.step;rw[if_neg ω,if_neg ω,if_neg ω,if_neg ω,if_neg ω,if_neg ω,if_pos h]
theorem xv (h:t.st=7):t.step=t.ak:=by unfold IS.step;rw[if_neg ω,if_neg ω,if_neg ω,if_neg ω,if_neg ω,if_neg ω,if_neg ω,if_pos h]
theorem lC (h:t.st=4):t.step=t.heads:=by unfold IS.step;rw[if_neg ω,if_neg ω,if_neg ω,if_neg ω,if_pos h]
theorem uD (h:t.st=4) (b:t.lens.length<t.c2) (a:t.x.length<3):t.step.2=5:=by rw[lC h,IS.heads,if_pos b,if_pos a]
theorem uE (h:t.st=4) (b:t.lens.length<t.c2) (a:¬t.x.length<3):t.step=({ t with x:=t.x.drop 3,lens:=t.lens++[(num t.x 3:Int)] },0):=by rw[lC h,IS.heads,if_pos b,if_neg a]
theorem xI (h:t.st=4) (b:¬t.lens.length<t.c2) (a:ai (dD t.lens) 7≠0\/cU t.lens=true):t.step=(t,3):=by rw[lC h,IS.heads,if_neg b,if_pos a]
theorem CE (h:t.st=4) (b:¬t.lens.length<t.c2) (a:¬(ai (dD t.lens) 7≠0\/cU t.lens=true)):t.step=({ t with hd:=dD t.lens,lens:=[],st:=5 },0):=by rw[lC h,IS.heads,if_neg b,if_neg a]
def hF (l:List Int) (i p:Nat):Value:= .int .i64 (if gG.idxOf p<i then ix l (gG.idxOf p)else 0)
theorem I9 (l:List Int) (p:Nat):Value.int .i64 0=hF l 0 p:=by unfold hF;rw[if_neg (Nat.not_lt_zero _)]
theorem RD:∀i,i<19->∀p,p<19->(gG.idxOf p=i↔p=gG.getD i 0):=by decide+kernel
theorem Ie:∀i,i<19->gG.getD i 0<19:=by decide+kernel
theorem I8 {l:List Int} {i:Nat} (hi:i<19) {p:Nat} (hp:p<19):upd (hF l i) (gG.getD i 0) (.int .i64 (ix l i)) p=hF l (i+1) p:=by
 have h:=RD i hi p hp;by_cases e:p=gG.getD i 0
 · rw[<-e,upd_same];unfold hF;rw[h.2 e,if_pos ω]
 · rw[bm _ _ e];have:gG.idxOf p≠i:=λb=>e (h.1 b)
   unfold hF;by_cases a:gG.idxOf p<i
   · rw[if_pos a,if_pos ω]
   · rw[if_neg a,if_neg ω]
theorem N7 {l:List Int} {p:Nat} (hp:p<19):hF l l.length p= .int .i64 (ix (dD l) p):=by
 unfold hF;have e:ix (dD l) p=ix l (gG.idxOf p):=by simp [ix,dD,hp]
 rw[e]
 split
 · rfl
 · congr 1;unfold ix;rw[List.getD_eq_getElem?_getD,List.getElem?_eq_none ω];rfl
theorem Gl {l:List Int} {i:Nat} (hi:i<l.length):cU (l.take (i+1))=(cU (l.take i)&&(ix l i==0)):=by
 unfold cU;rw[List.take_succ_eq_append_getElem hi,List.all_append];simp [ix,hi]
theorem CZ (h:t.st=5) (a:t.lens.length<t.c0+t.c1):t.step=t.length:=by unfold IS.step;rw[if_neg ω,if_neg ω,if_neg ω,if_neg ω,if_neg ω,if_pos h];unfold IS.lengths;rw[if_pos a]
theorem BR (a:Addr) {k:Nat} (h:k≠0):a.add k= ⟨a.block,a.off+k,none⟩ :=by unfold Addr.add;rw[if_neg h]
theorem D9 (h:t.st=5) (a:¬t.lens.length<t.c0+t.c1):t.step=if ai (t.lens.take t.c0) 15≠0\/ai (t.lens.drop t.c0) 15≠0\/ix t.lens 256=0 then(t,3)else({ t with lt:=t.lens.take t.c0,ds:=t.lens.drop t.c0,st:=6 },0):=by
 unfold IS.step;rw[if_neg ω,if_neg ω,if_neg ω,if_neg ω,if_neg ω,if_pos h];unfold IS.lengths;rw[if_neg a]
def MG (F:IS×Int):Int:=if F.2=8 then 0 else F.2
end
def jH (y x:List Int):Prop:=∃k,y=x.drop k
theorem jH.refl (x:List Int):jH x x:= ⟨0,rfl⟩
theorem jH.drop {y x:List Int} (h:jH y x) (n:Nat):jH (y.drop n) x:=by
 obtain⟨k,rfl⟩ :=h;exact⟨k+n,by rw[List.drop_drop]⟩
theorem jH.trans {z y x:List Int} (h:jH z y) (a:jH y x):jH z x:=by
 obtain⟨k,rfl⟩ :=h;exact a.drop k
theorem Dk (s:IS):jH s.over.x s.x:=by
 unfold IS.over
 split
 · exact(jH.refl _).drop _
 · exact jH.refl _
theorem uo (s:IS) (b x:List Int) (h:jH s.x x):jH (s.emit b).1.x x:=h
theorem Jl (s:IS):jH s.block.1.x s.x:=by
 unfold IS.block
 repeat' split
 all_goals first | exact jH.refl _ | exact(jH.refl _).drop _ | exact((jH.refl _).drop 3).drop _
theorem Pw (s:IS):jH s.size.1.x s.x:=by
 unfold IS.size
 repeat' split
 all_goals first | exact jH.refl _ | exact(jH.refl _).drop _
theorem GQ (s:IS):jH s.stored.1.x s.x:=by
 unfold IS.stored
 repeat' split
 all_goals first | exact Dk s | exact jH.refl _ | exact uo _ _ _ ((jH.refl _).drop 8)
theorem KT (s:IS):jH s.sizes.1.x s.x:=by
 unfold IS.sizes
 repeat' split
 all_goals first | exact jH.refl _ | exact(jH.refl _).drop _
theorem K0 (s:IS):jH s.heads.1.x s.x:=by
 unfold IS.heads
 repeat' split
 all_goals first | exact jH.refl _ | exact(jH.refl _).drop _
theorem D3 (s:IS):jH s.lengths.1.x s.x:=by
 unfold IS.lengths IS.length IS.fB
 repeat' split
 all_goals first | exact jH.refl _ | exact(jH.refl _).drop _ | exact((jH.refl _).drop _).drop _
theorem L3 (s:IS):jH s.token.1.x s.x:=by
 unfold IS.token
 repeat' split
 all_goals first | exact jH.refl _ | exact uo _ _ _ ((jH.refl _).drop _) | exact(Dk _).trans ((jH.refl _).drop _) | exact((jH.refl _).drop _).drop _
theorem Mz (s:IS):jH s.ak.1.x s.x:=by
 unfold IS.ak IS.text
 repeat' split
 all_goals first | exact jH.refl _ | exact uo _ _ _ (((jH.refl _).drop _).drop _)
theorem DT (s:IS):jH s.step.1.x s.x:=by
 unfold IS.step;by_cases d:s.st=0
 · rw[if_pos d];exact Jl s
 rw[if_neg d];by_cases c:s.st=1
 · rw[if_pos c];exact Pw s
 rw[if_neg c];by_cases b:s.st=2
 · rw[if_pos b];exact GQ s
 rw[if_neg b];by_cases a:s.st=3
 · rw[if_pos a];exact KT s
 rw[if_neg a];by_cases h4:s.st=4
 · rw[if_pos h4];exact K0 s
 rw[if_neg h4];by_cases h5:s.st=5
 · rw[if_pos h5];exact D3 s
 rw[if_neg h5];by_cases h6:s.st=6
 · rw[if_pos h6];exact L3 s
 rw[if_neg h6];by_cases h7:s.st=7
 · rw[if_pos h7];exact Mz s
 rw[if_neg h7];exact jH.refl _
theorem Ro (s:IS):jH s.fin.1.x s.x:=by
 obtain⟨t,b,a⟩ :=IS.ft s;rw[<-a];refine(DT t).trans ?_;clear a
 induction b with
 | refl=>exact jH.refl _
 | tail _ _ ih=>exact(DT _).trans ih
theorem MM {b:List Int} {m:Nat} (f:(start (bV b) m).fin.2=8):(start (bV b) m).fin.1.x.length/8<=b.length/\bV (b.drop (b.length-(start (bV b) m).fin.1.x.length/8))=(start (bV b) m).fin.1.x:=by
 obtain⟨k,a⟩ :=Ro (start (bV b) m);have e:(start (bV b) m).x=bV b:=rfl;rw[e]at a;obtain⟨t,i,d⟩ :=IS.ft (start (bV b) m);have g:t.step.2=8:=by rw[d];exact f
 obtain⟨h4,y,w,v,u,s,r,q,p⟩ :=IS.step_done g;have hO:t.Ok:=(IS.Ok.start (bc.bV b) m).steps i;have l:(start (bV b) m).fin.1=t:=by rw[<-d];exact h4
 have c:t.st=8:=by have:=hO.st8;omega
 have o:=hO.even (.inr (.inr c));rw[l]at a⊢;have n:t.x.length=8*b.length-k:=by rw[a,List.length_drop,bD]
 refine⟨ω, ?_⟩;rw[uf];by_cases h:k<=8*b.length
 · rw[a];congr 1;rw[<-a];omega
 · have j:t.x=[]:=List.eq_nil_of_length_eq_zero ω;rw[j];exact List.drop_of_length_le (by rw[bD];simp)
structure RM where
 Ao:Option Addr
 no:Nat
 co:Nat
 out:List Int
 E:Int
 rest:Int
 Ak:Option Addr
 nk:Nat
 ck:Nat
 kinds:List Int
 As:Option Addr
 ns:Nat
 cs:Nat
 stops:List Int
 Ab:Option Addr
 nb:Nat
 cb:Nat
 X:List Int
 at_:Nat
 most:Int
 Al:Value
 Ad:Value
 vZ:Value
 xk:Value
 At:Option Addr
 nt:Nat
 ct:Nat
 a8:List aF
def sF (R:RM):Nat->Value
 | 0=> .slice R.Ao R.no R.co
 | 1=> .int .i64 R.E
 | 2=> .int .i64 R.rest
 | 3=> .slice R.Ak R.nk R.ck
 | 4=> .slice R.As R.ns R.cs
 | 5=> .slice R.Ab R.nb R.cb
 | 6=> .int .i64 (R.at_:Nat)
 | 7=> .int .i64 R.most
 | 8=>R.Al
 | 9=>R.Ad
 | 10=>R.vZ
 | 11=>R.xk
 | _=> .slice R.At R.nt R.ct
theorem cu {P:Nat->Prop} (k:P 0) (i:P 1) (h:P 2) (g:P 3) (h4:P 4) (h5:P 5) (h6:P 6) (h7:P 7) (f:P 8) (e:P 9) (c:P 10) (b:P 11) (a:P 12):∀j,j<13->P j:=λj d=>by
 obtain rfl | rfl | rfl | rfl | rfl | rfl | rfl | rfl | rfl | rfl | rfl | rfl | rfl:j=0\/j=1\/j=2\/j=3\/j=4\/j=5\/j=6\/j=7\/j=8\/j=9\/j=10\/j=11\/j=12:=ω
 all_goals assumption
theorem aq.P0 {w w':World} {S:Nat->Prop} {b0 n c:Nat} {A:Option Addr} {l:List aF} (h:aq w w' S) (a:fl w b0 A n c l) (b:∀g,aa A=some g->¬S g):fl w' b0 A n c l:= ⟨a.1,h.own a.2 b⟩
structure cX (w:World) (b0 g:Nat) (c:Nat->Nat) (R:RM):Prop where
 cell:Ar w g 13 (sF R)
 cg:c g=1
 out:ag .u8 w b0 5 R.Ao R.no R.co R.out
 cout:∀k,aa R.Ao=some k->c k=2
 kinds:ag .i64 w b0 3 R.Ak R.nk R.ck R.kinds
 gR:∀k,aa R.Ak=some k->c k=3
 stops:ag .i64 w b0 3 R.As R.ns R.cs R.stops
 gT:∀k,aa R.As=some k->c k=4
 a8:fl w b0 R.At R.nt R.ct R.a8
 jQ:∀k,aa R.At=some k->c k=5
 bits:ag .u8 w b0 5 R.Ab R.nb R.cb R.X
 ma:∀k,aa R.Ab=some k->c k=6
 cb:∀k,c k≠0->b0<=k/\k<w.heap.size
def az (w0:World) (c0:Nat->Nat) (w:World) (b0 g:Nat) (R:RM):Prop:=∃c,cX w b0 g c R/\DE b0 w0 c0 w c
section
variable {w w' w0:World} {b0 g:Nat} {c c0:Nat->Nat} {R R':RM}
theorem cX.refl (h:cX w b0 g c R):az w c w b0 g R:= ⟨c,h,Below.refl _ _,aq.refl _ _,λ_ _=>rfl⟩
theorem cX.lo (h:cX w b0 g c R):b0<=w.heap.size:=by have:=h.cb g (by rw[h.cg];decide);omega
theorem az.bR (a:cX w b0 g c R) (hd:DE b0 w0 c0 w c) (h:az w c w' b0 g R'):az w0 c0 w' b0 g R':=by
 obtain⟨c',e,b⟩ :=h;exact⟨c',e,hd.step a.lo (λk d=>(a.cb k d).1) b.2.1 b.2.2⟩
theorem cX.aside {F:Nat->Prop} (h:cX w b0 g c R) (b:aq w w' F) (hF:∀k,F k->c k=0):cX w' b0 g c R:=
 ⟨b.ar h.cell (λe=>by have:=hF g e;have:=h.cg;omega),h.cg,b.bf h.out (λk a e=>by have:=hF k e;have:=h.cout k a;omega),h.cout,
   b.bf h.kinds (λk a e=>by have:=hF k e;have:=h.gR k a;omega),h.gR,
   b.bf h.stops (λk a e=>by have:=hF k e;have:=h.gT k a;omega),h.gT,
   b.P0 h.a8 (λk a e=>by have:=hF k e;have:=h.jQ k a;omega),h.jQ,
   b.bf h.bits (λk a e=>by have:=hF k e;have:=h.ma k a;omega),h.ma,
   λk a=> ⟨(h.cb k a).1,Nat.lt_of_lt_of_le (h.cb k a).2 b.size⟩⟩
theorem cX.keeps (h:cX w b0 g c R) (b:Below w.heap.size w w'):cX w' b0 g c R:=h.aside (F:=λ_=>False) (aq.aB b) (λk a=>a.elim)
theorem cX.put (h:cX w b0 g c R) {i:Nat} (hi:i<13) (v:Value) (R':RM) (hF:∀j,j<13->upd (sF R) i v j=sF R' j) (d:R'={ R with E:=R'.E,rest:=R'.rest,at_:=R'.at_,most:=R'.most,Al:=R'.Al,Ad:=R'.Ad,vZ:=R'.vZ,xk:=R'.xk }):cX (w.setCell ⟨g,i,none⟩ v) b0 g c R':=by
 have b:aq w (w.setCell ⟨g,i,none⟩ v) (λk=>k=g):=(aq.refl w (λk=>k=g)).setCell (p:= ⟨g,i,none⟩) (.inl rfl) v;refine⟨(h.cell.aQ hi v).congr hF,h.cg, ?_, ?_, ?_, ?_, ?_, ?_, ?_, ?_, ?_, ?_,λk a=> ⟨(h.cb k a).1,Nat.lt_of_lt_of_le (h.cb k a).2 b.size⟩⟩
 all_goals rw[d]
 · exact b.bf h.out (λk a e=>by have:=h.cout k a;have:=h.cg;subst e;omega)
 · exact h.cout
 · exact b.bf h.kinds (λk a e=>by have:=h.gR k a;have:=h.cg;subst e;omega)
 · exact h.gR
 · exact b.bf h.stops (λk a e=>by have:=h.gT k a;have:=h.cg;subst e;omega)
 · exact h.gT
 · exact b.P0 h.a8 (λk a e=>by have:=h.jQ k a;have:=h.cg;subst e;omega)
 · exact h.jQ
 · exact b.bf h.bits (λk a e=>by have:=h.ma k a;have:=h.cg;subst e;omega)
 · exact h.ma
theorem cX.XZ (h:cX w b0 g c R) {A':Option Addr} {n' c':Nat} {l':List Int} (l:aq w w' (λk=>k=g\/aa R.Ao=some k)) (p:Ar w' g 13 (sF { R with Ao:=A',no:=n',co:=c',out:=l' })) (n:ag .u8 w' b0 5 A' n' c' l')
  (o:∀k,aa A'=some k->aa R.Ao=some k\/w.heap.size<=k):
  cX w' b0 g (aN c w.heap.size (λk=>aa A'=some k) 2) { R with Ao:=A',no:=n',co:=c',out:=l' }:=by
 have hF:∀k,(k=g\/aa R.Ao=some k)->c k=1\/c k=2:=λk a=>by
  rcases a with rfl | a
  · exact .inl h.cg
  · exact .inr (h.cout k a)
 have m:∀k i,c k=i->i≠0->k<w.heap.size:=λk i d b=>(h.cb k ω).2
 have j:∀k,k<w.heap.size->aN c w.heap.size (λk=>aa A'=some k) 2 k=c k:=λk a=>aG a
 have f:∀k i,c k=i->i≠0->aN c w.heap.size (λk=>aa A'=some k) 2 k=i:=λk i d b=>(j k (m k i d b)).trans d
 exact⟨p,f _ _ h.cg δ,
  n,λk a=>by
   rcases Nat.lt_or_ge k w.heap.size with d | d
   · rcases o k a with b | b
     · exact f k 2 (h.cout k b) δ
     · omega
   · exact bX d a,
  l.bf h.kinds (λk a e=>by have:=hF k e;have:=h.gR k a;omega),λk a=>f k 3 (h.gR k a) δ,
  l.bf h.stops (λk a e=>by have:=hF k e;have:=h.gT k a;omega),λk a=>f k 4 (h.gT k a) δ,
  l.P0 h.a8 (λk a e=>by have:=hF k e;have:=h.jQ k a;omega),λk a=>f k 5 (h.jQ k a) δ,
  l.bf h.bits (λk a e=>by have:=hF k e;have:=h.ma k a;omega),λk a=>f k 6 (h.ma k a) δ,
  λk a=>by
   rcases cJ a with ⟨d,b⟩ | ⟨d,b⟩
   · exact⟨(h.cb k b).1,Nat.lt_of_lt_of_le d l.size⟩
   · exact n.2.lt b⟩
theorem az.XZ (h:az w0 c0 w b0 g R) {A':Option Addr} {n' c':Nat} {l':List Int} (b:aq w w' (λk=>k=g\/aa R.Ao=some k)) (f:Ar w' g 13 (sF { R with Ao:=A',no:=n',co:=c',out:=l' })) (d:ag .u8 w' b0 5 A' n' c' l')
  (e:∀k,aa A'=some k->aa R.Ao=some k\/w.heap.size<=k):az w0 c0 w' b0 g { R with Ao:=A',no:=n',co:=c',out:=l' }:=by
 obtain⟨c,h,hd⟩ :=h
 exact⟨_,h.XZ b f d e,hd.step h.lo (λk a=>(h.cb k a).1) (b.more λk a=>by
  rcases a with rfl | a
  · rw[h.cg];decide
  · rw[h.cout k a];decide) λk a=>aG a⟩
theorem cX.Gj (h:cX w b0 g c R) {A':Option Addr} {n' c':Nat} {l':List Int} (l:aq w w' (λk=>k=g\/aa R.Ak=some k)) (p:Ar w' g 13 (sF { R with Ak:=A',nk:=n',ck:=c',kinds:=l' })) (n:ag .i64 w' b0 3 A' n' c' l')
  (o:∀k,aa A'=some k->aa R.Ak=some k\/w.heap.size<=k):
  cX w' b0 g (aN c w.heap.size (λk=>aa A'=some k) 3) { R with Ak:=A',nk:=n',ck:=c',kinds:=l' }:=by
 have hF:∀k,(k=g\/aa R.Ak=some k)->c k=1\/c k=3:=λk a=>by
  rcases a with rfl | a
  · exact .inl h.cg
  · exact .inr (h.gR k a)
 have m:∀k i,c k=i->i≠0->k<w.heap.size:=λk i d b=>(h.cb k ω).2
 have j:∀k,k<w.heap.size->aN c w.heap.size (λk=>aa A'=some k) 3 k=c k:=λk a=>aG a
 have f:∀k i,c k=i->i≠0->aN c w.heap.size (λk=>aa A'=some k) 3 k=i:=λk i d b=>(j k (m k i d b)).trans d
 exact⟨p,f _ _ h.cg δ,
  l.bf h.out (λk a e=>by have:=hF k e;have:=h.cout k a;omega),λk a=>f k 2 (h.cout k a) δ,
  n,λk a=>by
   rcases Nat.lt_or_ge k w.heap.size with d | d
   · rcases o k a with b | b
     · exact f k 3 (h.gR k b) δ
     · omega
   · exact bX d a,
  l.bf h.stops (λk a e=>by have:=hF k e;have:=h.gT k a;omega),λk a=>f k 4 (h.gT k a) δ,
  l.P0 h.a8 (λk a e=>by have:=hF k e;have:=h.jQ k a;omega),λk a=>f k 5 (h.jQ k a) δ,
  l.bf h.bits (λk a e=>by have:=hF k e;have:=h.ma k a;omega),λk a=>f k 6 (h.ma k a) δ,
  λk a=>by
   rcases cJ a with ⟨d,b⟩ | ⟨d,b⟩
   · exact⟨(h.cb k b).1,Nat.lt_of_lt_of_le d l.size⟩
   · exact n.2.lt b⟩
theorem az.Gj (h:az w0 c0 w b0 g R) {A':Option Addr} {n' c':Nat} {l':List Int} (b:aq w w' (λk=>k=g\/aa R.Ak=some k)) (f:Ar w' g 13 (sF { R with Ak:=A',nk:=n',ck:=c',kinds:=l' })) (d:ag .i64 w' b0 3 A' n' c' l')
  (e:∀k,aa A'=some k->aa R.Ak=some k\/w.heap.size<=k):az w0 c0 w' b0 g { R with Ak:=A',nk:=n',ck:=c',kinds:=l' }:=by
 obtain⟨c,h,hd⟩ :=h
 exact⟨_,h.Gj b f d e,hd.step h.lo (λk a=>(h.cb k a).1) (b.more λk a=>by
  rcases a with rfl | a
  · rw[h.cg];decide
  · rw[h.gR k a];decide) λk a=>aG a⟩
theorem cX.Gm (h:cX w b0 g c R) {A':Option Addr} {n' c':Nat} {l':List Int} (l:aq w w' (λk=>k=g\/aa R.As=some k)) (p:Ar w' g 13 (sF { R with As:=A',ns:=n',cs:=c',stops:=l' })) (n:ag .i64 w' b0 3 A' n' c' l')
  (o:∀k,aa A'=some k->aa R.As=some k\/w.heap.size<=k):
  cX w' b0 g (aN c w.heap.size (λk=>aa A'=some k) 4) { R with As:=A',ns:=n',cs:=c',stops:=l' }:=by
 have hF:∀k,(k=g\/aa R.As=some k)->c k=1\/c k=4:=λk a=>by
  rcases a with rfl | a
  · exact .inl h.cg
  · exact .inr (h.gT k a)
 have m:∀k i,c k=i->i≠0->k<w.heap.size:=λk i d b=>(h.cb k ω).2
 have j:∀k,k<w.heap.size->aN c w.heap.size (λk=>aa A'=some k) 4 k=c k:=λk a=>aG a
 have f:∀k i,c k=i->i≠0->aN c w.heap.size (λk=>aa A'=some k) 4 k=i:=λk i d b=>(j k (m k i d b)).trans d
 exact⟨p,f _ _ h.cg δ,
  l.bf h.out (λk a e=>by have:=hF k e;have:=h.cout k a;omega),λk a=>f k 2 (h.cout k a) δ,
  l.bf h.kinds (λk a e=>by have:=hF k e;have:=h.gR k a;omega),λk a=>f k 3 (h.gR k a) δ,
  n,λk a=>by
   rcases Nat.lt_or_ge k w.heap.size with d | d
   · rcases o k a with b | b
     · exact f k 4 (h.gT k b) δ
     · omega
   · exact bX d a,
  l.P0 h.a8 (λk a e=>by have:=hF k e;have:=h.jQ k a;omega),λk a=>f k 5 (h.jQ k a) δ,
  l.bf h.bits (λk a e=>by have:=hF k e;have:=h.ma k a;omega),λk a=>f k 6 (h.ma k a) δ,
  λk a=>by
   rcases cJ a with ⟨d,b⟩ | ⟨d,b⟩
   · exact⟨(h.cb k b).1,Nat.lt_of_lt_of_le d l.size⟩
   · exact n.2.lt b⟩
theorem az.Gm (h:az w0 c0 w b0 g R) {A':Option Addr} {n' c':Nat} {l':List Int} (b:aq w w' (λk=>k=g\/aa R.As=some k)) (f:Ar w' g 13 (sF { R with As:=A',ns:=n',cs:=c',stops:=l' })) (d:ag .i64 w' b0 3 A' n' c' l')
  (e:∀k,aa A'=some k->aa R.As=some k\/w.heap.size<=k):az w0 c0 w' b0 g { R with As:=A',ns:=n',cs:=c',stops:=l' }:=by
 obtain⟨c,h,hd⟩ :=h
 exact⟨_,h.Gm b f d e,hd.step h.lo (λk a=>(h.cb k a).1) (b.more λk a=>by
  rcases a with rfl | a
  · rw[h.cg];decide
  · rw[h.gT k a];decide) λk a=>aG a⟩
theorem cX.OL (h:cX w b0 g c R) {A':Option Addr} {n' c':Nat} {l':List aF} (l:aq w w' (λk=>k=g\/aa R.At=some k)) (p:Ar w' g 13 (sF { R with At:=A',nt:=n',ct:=c',a8:=l' })) (n:fl w' b0 A' n' c' l')
  (o:∀k,aa A'=some k->aa R.At=some k\/w.heap.size<=k):
  cX w' b0 g (aN c w.heap.size (λk=>aa A'=some k) 5) { R with At:=A',nt:=n',ct:=c',a8:=l' }:=by
 have hF:∀k,(k=g\/aa R.At=some k)->c k=1\/c k=5:=λk a=>by
  rcases a with rfl | a
  · exact .inl h.cg
  · exact .inr (h.jQ k a)
 have m:∀k i,c k=i->i≠0->k<w.heap.size:=λk i d b=>(h.cb k ω).2
 have j:∀k,k<w.heap.size->aN c w.heap.size (λk=>aa A'=some k) 5 k=c k:=λk a=>aG a
 have f:∀k i,c k=i->i≠0->aN c w.heap.size (λk=>aa A'=some k) 5 k=i:=λk i d b=>(j k (m k i d b)).trans d
 exact⟨p,f _ _ h.cg δ,
  l.bf h.out (λk a e=>by have:=hF k e;have:=h.cout k a;omega),λk a=>f k 2 (h.cout k a) δ,
  l.bf h.kinds (λk a e=>by have:=hF k e;have:=h.gR k a;omega),λk a=>f k 3 (h.gR k a) δ,
  l.bf h.stops (λk a e=>by have:=hF k e;have:=h.gT k a;omega),λk a=>f k 4 (h.gT k a) δ,
  n,λk a=>by
   rcases Nat.lt_or_ge k w.heap.size with d | d
   · rcases o k a with b | b
     · exact f k 5 (h.jQ k b) δ
     · omega
   · exact bX d a,
  l.bf h.bits (λk a e=>by have:=hF k e;have:=h.ma k a;omega),λk a=>f k 6 (h.ma k a) δ,
  λk a=>by
   rcases cJ a with ⟨d,b⟩ | ⟨d,b⟩
   · exact⟨(h.cb k b).1,Nat.lt_of_lt_of_le d l.size⟩
   · exact n.2.lt b⟩
theorem az.OL (h:az w0 c0 w b0 g R) {A':Option Addr} {n' c':Nat} {l':List aF} (b:aq w w' (λk=>k=g\/aa R.At=some k)) (f:Ar w' g 13 (sF { R with At:=A',nt:=n',ct:=c',a8:=l' })) (d:fl w' b0 A' n' c' l')
  (e:∀k,aa A'=some k->aa R.At=some k\/w.heap.size<=k):az w0 c0 w' b0 g { R with At:=A',nt:=n',ct:=c',a8:=l' }:=by
 obtain⟨c,h,hd⟩ :=h
 exact⟨_,h.OL b f d e,hd.step h.lo (λk a=>(h.cb k a).1) (b.more λk a=>by
  rcases a with rfl | a
  · rw[h.cg];decide
  · rw[h.jQ k a];decide) λk a=>aG a⟩
theorem az.keeps (h:az w0 c0 w b0 g R) (b:Below w.heap.size w w'):az w0 c0 w' b0 g R:=by
 obtain⟨c,h,hd⟩ :=h;exact⟨c,h.keeps b,hd.step h.lo (λk a=>(h.cb k a).1) (aq.aB b) λk a=>rfl⟩
theorem az.drewN (h:az w0 c0 w b0 g R) (q:Nat):az w0 c0 (w.drewN q) b0 g R:=h.keeps (below_drewN (Below.refl _ _) q)
theorem az.drew (h:az w0 c0 w b0 g R):az w0 c0 w.drew b0 g R:=h.keeps (Below.refl _ _).drew
theorem az.put (h:az w0 c0 w b0 g R) {i:Nat} (hi:i<13) (v:Value) (R':RM) (hF:∀j,j<13->upd (sF R) i v j=sF R' j) (b:R'={ R with E:=R'.E,rest:=R'.rest,at_:=R'.at_,most:=R'.most,Al:=R'.Al,Ad:=R'.Ad,vZ:=R'.vZ,xk:=R'.xk }):az w0 c0 (w.setCell ⟨g,i,none⟩ v) b0 g R':=by
 obtain⟨c,h,hd⟩ :=h;exact⟨c,h.put hi v R' hF b,hd.step h.lo (λk a=>(h.cb k a).1) ((aq.refl w (λk=>c k≠0)).setCell (p:= ⟨g,i,none⟩) (.inl (by rw[h.cg];decide)) v) λk a=>rfl⟩
theorem az.cell (h:az w0 c0 w b0 g R):Ar w g 13 (sF R):=by obtain⟨c,h,hd⟩ :=h;exact h.cell
theorem az.out (h:az w0 c0 w b0 g R):ag .u8 w b0 5 R.Ao R.no R.co R.out:=by obtain⟨c,h,hd⟩ :=h;exact h.out
theorem az.kinds (h:az w0 c0 w b0 g R):ag .i64 w b0 3 R.Ak R.nk R.ck R.kinds:=by obtain⟨c,h,hd⟩ :=h;exact h.kinds
theorem az.stops (h:az w0 c0 w b0 g R):ag .i64 w b0 3 R.As R.ns R.cs R.stops:=by obtain⟨c,h,hd⟩ :=h;exact h.stops
theorem az.a8 (h:az w0 c0 w b0 g R):fl w b0 R.At R.nt R.ct R.a8:=by obtain⟨c,h,hd⟩ :=h;exact h.a8
theorem az.bits (h:az w0 c0 w b0 g R):ag .u8 w b0 5 R.Ab R.nb R.cb R.X:=by obtain⟨c,h,hd⟩ :=h;exact h.bits
theorem az.lo (h:az w0 c0 w b0 g R):b0<=w.heap.size:=by obtain⟨c,h,hd⟩ :=h;exact h.lo
theorem az.apart (h:az w0 c0 w b0 g R):aa R.Ao≠some g/\aa R.Ak≠some g/\aa R.As≠some g/\aa R.At≠some g:=by
 obtain⟨c,h,hd⟩ :=h;have a:=h.cg;exact⟨λe=>by have:=h.cout g e;omega,λe=>by have:=h.gR g e;omega,λe=>by have:=h.gT g e;omega,λe=>by have:=h.jQ g e;omega⟩
theorem az.aside (h:az w0 c0 w b0 g R):aq w0 w (λk=>c0 k≠0)/\Below b0 w0 w:=by obtain⟨c,h,hd⟩ :=h;exact⟨hd.2.1,hd.1⟩
theorem az.cells (h:az w0 c0 w b0 g R):w.cell? ⟨g,0,none⟩ =some (.slice R.Ao R.no R.co)/\w.cell? ⟨g,1,none⟩ =some (.int .i64 R.E)/\w.cell? ⟨g,2,none⟩ =some (.int .i64 R.rest)/\w.cell? ⟨g,3,none⟩ =some (.slice R.Ak R.nk R.ck)/\w.cell? ⟨g,4,none⟩ =some (.slice R.As R.ns R.cs)/\w.cell? ⟨g,5,none⟩ =some (.slice R.Ab R.nb R.cb)/\
  w.cell? ⟨g,6,none⟩ =some (.int .i64 (R.at_:Nat))/\w.cell? ⟨g,7,none⟩ =some (.int .i64 R.most)/\w.cell? ⟨g,8,none⟩ =some R.Al/\w.cell? ⟨g,9,none⟩ =some R.Ad/\w.cell? ⟨g,10,none⟩ =some R.vZ/\w.cell? ⟨g,11,none⟩ =some R.xk/\w.cell? ⟨g,12,none⟩ =some (.slice R.At R.nt R.ct):=by
 have k:=h.cell;exact⟨k.cell (i:=0) ω,k.cell (i:=1) ω,k.cell (i:=2) ω,k.cell (i:=3) ω,k.cell (i:=4) ω,k.cell (i:=5) ω,k.cell (i:=6) ω,k.cell (i:=7) ω,k.cell (i:=8) ω,k.cell (i:=9) ω,k.cell (i:=10) ω,k.cell (i:=11) ω,k.cell (i:=12) ω⟩
end
theorem oQ:(Tryz.prog.info? 5).map (λi=>(i.zero,i.size,i.bytes))=some (some (.int .u8 0),1,1):=by kernel_rfl
def Vt (w:World) (L:List Int) (e:Ending) (w':World):Prop:=
 ∃A n c,e= .returned (.slice A n c)/\ag .u8 w' w.heap.size 5 A n c L/\Below w.heap.size w w'
def QD (w:World) (b:List Int) (n:Nat) (o i:Value) (wr:World):Prop:=
 ∃(k m d:Nat) (A:Option Addr),k<=n/\i= .int .i64 k/\Hid (m=8*k)/\o= .slice A m d/\ag .u8 wr w.heap.size 5 A m d (bV (b.take k))/\Below w.heap.size w wr
def UQ (w:World) (b:List Int) (a:Nat) (o j:Value) (wr:World):Prop:=
 ∃(k m d:Nat) (A:Option Addr),k<=8/\j= .int .i64 k/\Hid (m=8*a+k)/\o= .slice A m d/\ag .u8 wr w.heap.size 5 A m d (bV (b.take a)++aX (ix b a) k)/\Below w.heap.size w wr
theorem Mj (w:World) (B n c:Nat) (A:Option Addr) (b:List Int) (G:aT .u8 w B A n b) (hB:B<=w.heap.size) (v:∀x∈b,0<=x/\x<256) (Y:(n:Int)<=100000000000):Calls Tryz.prog 37 #[.slice A n c] w (Vt w (bV b)):=by
 obtain⟨K,hi,l,h,g⟩ :=info_parts oQ;have Hi:=η hi;have S:=η l;have R:=η h;have Q:=η g;clear hi l h g;have J:=η G.1;go_enter Tryz.func37,Tryz.ntmps37
 go_wp2
 go_loopw [3,4] (QD w b n) (λ_ i _=>n-(intOf i).toNat)
 case atStart=>exact⟨0,0,0,none,Nat.zero_le _,rfl,rfl,rfl,ag.br,Below.refl _ _⟩
 case round=>
  obtain⟨k,m,d,A1,hk,rfl,U,rfl,a,e⟩ :=hrel;by_cases f:k<n
  · have mA:(k:Int)<(n:Int)/\(0:Int)<=k:=ω;obtain⟨E,s⟩ :∃E:World,E=wr:= ⟨_,rfl⟩;subst s
    go_wp2_with fail
    go_loopw [3,5] (UQ w b k) (λ_ j _=>8-(intOf j).toNat)
    case atStart=>exact⟨0,m,d,A1,Nat.zero_le _,rfl,U,rfl,by rw[show aX (ix b k) 0=[] from rfl,List.append_nil];exact a,e⟩
    case round=>
     clear a e;obtain⟨j,m2,d2,W,hj,rfl,C,rfl,a,e⟩ :=hrel;by_cases t:j<8
     · have Ui:(j:Int)<8/\(0:Int)<=j:=ω;obtain⟨P,rfl,O,c1⟩ :=G.at_ f;have c2:=(e.cell (p:=P.add k) (by rw[aw];omega)).trans c1;obtain⟨x,r⟩ :=ν (ix b k);have F:=Iz v k;rw[r]at c2 F a;have I:Hid (aX x (j+1)=aX x j++[x/2 ^ j%2]):=OP x j;have T:=η r;obtain⟨y,o⟩ :=ν (x/2 ^ j%2);have Z:m2<=900000000000:=by have:=C.out;omega
       have e0:(j:Int)%18446744073709551616=(j:Int):=ω;have N:=a.alloc (.cells #[.int .u8 y] 5);have z:=e.alloc e.size (.cells #[.int .u8 y] 5);rw[o]at I;have e1:(x/2 ^ j).tmod 2=y:=by rw[Int.tmod_eq_emod_of_nonneg (Int.ediv_nonneg F.1 (Int.le_of_lt (two_pos j))),o]
       clear o;clear r c1
       go_wp2_with (at_builtin;(refine au .u8 w.heap.size 5 K 1 rfl (.tmp 16) (.tmp 25) _ rfl Tryz.underlying26 Hi.out S.out R.out Q.out rfl N rfl (aT.lit .u8 wr [y] 5) ω ω z.size ?_)
                    intro V d4 X M u bG)
       go_roundw
       case rel=>exact⟨j+1,m2+1,d4,V,t,by go_num,by have:=C.out;show _=_;omega,rfl,by rw[T.out,I.out,<-List.append_assoc];exact M,z.grown u z.size λq L=>(a.2.lt L).1⟩
       case measure=>simp [intOf];omega
     · obtain rfl:j=8:=ω
       have D:Hid (bV (b.take (k+1))=bV (b.take k)++aX (ix b k) 8):=by
        show _=_
        have H:k<b.length:=by rw[<-J.out];exact f
        rw[List.take_succ_eq_append_getElem H,oM];congr 1;simp [bV,ix,H]
       go_wp2
       go_roundw
       case rel=>exact⟨k+1,m2,d2,W,f,by go_num,by have:=C.out;show _=_;omega,rfl,by rw[D.out];exact a,e⟩
       case measure=>simp [intOf];omega
  · obtain rfl:n=k:=ω;have D:Hid (b.take n=b):=by show _=_;rw[J.out,List.take_length]
    go_wp2
    go_ret
    exact⟨A1,m,d,rfl,by rw[D.out]at a;exact a,e⟩
def Vv (l:List Int) (n:Nat) (x i:Value):Prop:=∃(k:Nat) (v:Int),k<=n/\i= .int .i64 ((k:Int)-1)/\x= .int .i64 v/\Hid (v=bW (l.drop k))
theorem Gn (w:World) (B n c:Nat) (A:Option Addr) (l:List Int) (j:aT .u8 w B A n l) (m:bc l) (C:(n:Int)<=32):Calls Tryz.prog 54 #[.slice A n c] w λe w'=>e= .returned (.int .i64 (bW l))/\w=w':=by
 have f:=η j.1;go_enter Tryz.func54,Tryz.ntmps54
 go_wp2
 go_loop [3,4] (Vv l n) (λ_ i=>(intOf i+1).toNat)
 case atStart=>exact⟨n,0,Nat.le_refl _,rfl,rfl,by show _=_;rw[f.out,List.drop_length];rfl⟩
 case round=>
  obtain⟨k,v,E,rfl,rfl,d⟩ :=hrel;have g:=fy (m.bu k);have t:=cK (show(l.drop k).length<=32 by simp;have:=f.out;omega);have s:(2:Int) ^ 32=4294967296:=rfl;rw[<-d.out]at g;have o:0<=v/\v<4294967296:=ω;clear g t s;by_cases D:0<k
  · obtain⟨p,rfl⟩ :∃p,k=p+1:= ⟨k-1,ω⟩;have hp:((p+1:Nat):Int)-1=(p:Int):=ω;have z:(0:Int)<=p/\(p:Int)<(n:Int):=ω;obtain⟨F,rfl,r,c1⟩ :=j.at_ (i:=p) ω;obtain⟨x,b⟩ :=ν (ix l p)
    have y:0<=x/\x<=1:=by
     rw[<-b];unfold ix;rw[List.getD_eq_getElem?_getD];cases h:l[p]? with
     | none=>simp
     | some v=>have:=m v (List.mem_of_getElem? h);simp;omega
    rw[b]at c1
    have u:Hid (bW (l.drop p)=2*v+x):=by
     show _=_
     have a:p<l.length:=by rw[<-f.out];omega
     rw[List.drop_eq_getElem_cons a,bW,<-d.out];have:l[p]=x:=by rw[<-b];simp [ix,a]
     rw[this];omega
    clear b;rw[hp];go_wp2
    go_round
    case rel=>exact⟨p,2*v+x,ω,rfl,rfl,by show _=_;rw[u.out]⟩
    case measure=>simp [intOf]
  · obtain rfl:k=0:=ω;have q:((0:Nat):Int)-1= -1:=rfl;rw[q];go_wp2
    go_ret
    exact⟨aK (by rw[d.out,List.drop_zero]),rfl⟩
def Jt (l:List Int) (k v:Nat):Value:= .int .i64 (if v=0 then 0 else cnt l k v:Nat)
theorem Mx (l:List Int) (v:Nat):Value.int .i64 0=Jt l 0 v:=by unfold Jt;congr 1;simp [cnt]
theorem Fa (l:List Int) (k:Nat) {v:Nat} (h:1<=v):Jt l k v= .int .i64 (cnt l k v:Nat):=by unfold Jt;rw[if_neg ω]
theorem I1 (l:List Int) (k:Nat) {v:Nat} (h:1<=v) (e:ix l k=(v:Int)) (j:Nat):upd (Jt l k) v (.int .i64 ((cnt l k v:Int)+1)) j=Jt l (k+1) j:=by
 by_cases a:j=v
 · subst a;rw[upd_same,Fa _ _ h];congr 1;simp [cnt,e]
 · rw[bm _ _ a];unfold Jt;congr 3;have:¬ix l k=(j:Int):=by rw[e];omega
   simp [cnt,this]
theorem Mw (l:List Int) (k:Nat) (h:ix l k=0) (j:Nat):Jt l k j=Jt l (k+1) j:=by
 unfold Jt;by_cases a:j=0
 · rw[if_pos a,if_pos a]
 · rw[if_neg a,if_neg a];have:¬ix l k=(j:Int):=ω;simp [cnt,this]
def eX (w:World) (l x:List Int) (e:Ending) (w':World):Prop:=
 e= .returned (.tuple #[.int .i64 (ae l x).1, .int .i64 ((ae l x).2.1:Nat), .int .i64 (ae l x).2.2])/\Below w.heap.size w w'
def ZO (w:World) (l:List Int) (n:Nat) (m i:Value) (wr:World):Prop:=
 ∃k:Nat,k<=n/\i= .int .i64 k/\m= .int .i64 (xU l k)/\Ar wr w.heap.size 16 (Jt l k)/\Below w.heap.size w wr
def ZP (w:World) (l x:List Int) (a:Nat) (v f n _i:Value) (wr:World):Prop:=
 ∃k:Nat,1<=k/\k<=a+1/\k<=x.length+1/\n= .int .i64 k/\v= .int .i64 (hv x (k-1))/\f= .int .i64 (vr l k:Nat)/\Hid (fh l x (k-1)=0)/\Ar wr w.heap.size 16 (Jt l l.length)/\Below w.heap.size w wr
def ZQ (a:World) (s:Nat) (i:Value) (wr:World):Prop:=∃j q:Nat,j<=s/\i= .int .i64 j/\wr=a.drewN q
theorem KO (w:World) (Al Ac Ab:Option Addr) (n cl cc nb cb at_:Nat) (l bs:List Int) (hl:aT .i64 w w.heap.size Al n l) (hc:aT .u32 w w.heap.size Ac n (eh l)) (zG:aT .u8 w w.heap.size Ab nb bs) (iY:bc bs)
  (hn:n<=288) (iq:∀i,i<n->0<=ix l i/\ix l i<=15) (cg:at_<=nb) (mC:nb<=1000000000000):
  Calls Tryz.prog 76 #[.slice Al n cl, .slice Ac n cc, .slice Ab nb cb, .int .i64 at_] w (eX w l (bs.drop at_)):=by
 obtain⟨x,X⟩ :=ν (bs.drop at_);rw[X];have lH:nb-at_=x.length:=by rw[<-X,List.length_drop,zG.1]
 have G6:bc x:=by rw[<-X];exact iY.bu at_
 have T:=η hl.1;obtain⟨a,Im⟩ :=ν (o0 l 15);have bS:a<=15:=by rw[<-Im];exact Gf l 15
 have bk:Hid (xU l n=(a:Int)):=by
  show _=_
  rw[<-Im,T.out];exact SP λi hi=>(iq i (by rw[T.out];exact hi)).2
 have I:Hid (ae l x=if fh l x (min x.length a)≠0 then(xi l (fh l x (min x.length a)) (hv x (fh l x (min x.length a))-jd l (fh l x (min x.length a))).toNat,fh l x (min x.length a),0)else if min x.length a<a then(0,0,5)else if a=0/\x.length=0 then(0,0,5)else(0,0,3)):=by
  show _=_;unfold ae;rw[Im]
 have Ts:=η iq;have HX:=η X;have co:=η Im;have jS:Hid (l.length<=288):=by show _<=_;rw[<-T.out];exact hn
 clear X Im iq;go_enter Tryz.func76,Tryz.ntmps76
 go_wp2
 go_loopw [12,13] (ZO w l n) (λ_ i _=>n-(intOf i).toNat)
 case atStart=>exact⟨0,Nat.zero_le _,rfl,rfl,(Ar.zeros w 16 (.int .i64 0) 146).congr λj _=>Mx l j,(Below.refl _ _).alloc (Nat.le_refl _) _⟩
 case round=>
  obtain⟨k,hk,rfl,rfl,B,c⟩ :=hrel;have m0:=OG l k;obtain⟨M,hM⟩ :=ν (xU l k);rw[hM]at m0⊢;by_cases f:k<n
  · have mA:(0:Int)<=k/\(k:Int)<(n:Int):=ω;obtain⟨ad,rfl,JR,c1⟩ :=(hl.below c).at_ f;have ht:=Ts.out k f;have wM:Hid (xU l (k+1)=if M<ix l k then ix l k else M):=by show _=_;rw[xU,hM]
    clear hM;by_cases g:ix l k=0
    · have iX:=B.congr λj _=>Mw l k g j
      have A:Hid (xU l (k+1)=M):=by show _=_;rw[wM.out,g,if_neg ω]
      rw[g]at c1;clear g ht;go_wp2
      go_roundw
      case rel=>exact⟨k+1,f,by go_num,by rw[A.out],iX,c⟩
      case measure=>simp [intOf];omega
    · obtain⟨v,hv⟩ :∃v:Nat,ix l k=(v:Int):= ⟨(ix l k).toNat,ω⟩;rw[hv]at c1 ht g;have F:(1:Int)<=(v:Int)/\(v:Int)<=15:=ω;have c2:=B.cell (i:=v) ω;rw[Fa l k ω]at c2;have z2:=B.frozen' (i:=v) ω;have bd:=gS l k v;have H:=η hv;rw[hv]at wM;clear hv g ht
      have ch:(wr.setCell ⟨w.heap.size,v,none⟩ (.int .i64 ((cnt l k v:Int)+1))).cell? (ad.add k)=some (.int .i64 v):=by
       rw[World.cell?_setCell_other _ _ _ _ (λe=>by have h9:=congrArg Addr.block e;rw[aw]at h9;simp at h9;omega)];exact c1
      by_cases YR:M<(v:Int)
      · have A:Hid (xU l (k+1)=(v:Int)):=by show _=_;rw[wM.out,if_pos YR]
        go_wp2
        go_roundw
        case rel=>exact⟨k+1,f,by go_num,by rw[A.out],(B.aQ ω _).congr λj _=>I1 l k ω H.out j,c.setCell (Nat.le_refl _) _⟩
        case measure=>simp [intOf];omega
      · have A:Hid (xU l (k+1)=M):=by show _=_;rw[wM.out,if_neg YR]
        go_wp2
        go_roundw
        case rel=>exact⟨k+1,f,by go_num,by rw[A.out],(B.aQ ω _).congr λj _=>I1 l k ω H.out j,c.setCell (Nat.le_refl _) _⟩
        case measure=>simp [intOf];omega
  · obtain rfl:n=k:=ω;have bx:M=(a:Int):=by rw[<-hM];exact bk.out
    clear hM;subst bx;have iX:Ar wr w.heap.size 16 (Jt l l.length):=by rw[<-T.out];exact B
    clear B m0;go_wp2
    go_loopw [14,15,16,17] (ZP w l x a) (λ_ _ i _ _=>a+1-(intOf i).toNat)
    case atStart=>exact⟨1,Nat.le_refl _,ω,ω,rfl,rfl,rfl,rfl,iX,c⟩
    case round=>
     clear iX c;obtain⟨k,tH,mg,bT,rfl,rfl,rfl,Q,B,c⟩ :=hrel;by_cases f:k<=a
     · obtain⟨p,rfl⟩ :∃p,k=p+1:= ⟨k-1,ω⟩;rw[Nat.add_sub_cancel]at Q⊢;by_cases bI:p<x.length
       · have F:=Ix G6 p;have L:=Ix G6 (p+1);have wT:=Ol G6 (Fq Q.out);have G2:=cK (show p+1<=15 by omega);have wy:(2:Int) ^ 15=32768:=rfl;have tq:(2:Int) ^ (p+1)=2*2 ^ p:=by rw[Int.pow_succ];omega
         have dT:=pq l jS.out (v:=p+1) ω;have E:=vt l (show 1<=p+1 by omega);have Z:=ya l (show 1<=p+1 by omega);have Y:hv x (p+1)=2*hv x p+ix x p:=rfl;have K:=gS l l.length (p+1);have u:=fq Q.out;have c3:=B.cell (i:=p+1) ω;rw[Fa l _ ω]at c3;obtain⟨d,G⟩ :=ν (p+1:Nat);obtain⟨h,hh⟩ :=ν (hv x p);obtain⟨b,uz⟩ :=ν (ix x p);obtain⟨V,o⟩ :=ν (hv x (p+1));obtain⟨ct,qP⟩ :=ν (cnt l l.length (p+1));obtain⟨C,P⟩ :=ν (jd l (p+1));obtain⟨U,Sn⟩ :=ν (vr l (p+1));obtain⟨cm,rfl,_,c4⟩ :=(zG.below c).at_ (i:=at_+p) ω;have e4:ix bs (at_+p)=b:=by rw[<-uz,<-HX.out,ia]
         rw[e4]at c4;have hit:rz l x (p+1)=decide (V<(C:Int)+(ct:Int)):=by unfold rz;rw[o,P,qP]
         have xH:b=0\/b=1:=by
          rw[<-uz];unfold ix;rw[List.getD_eq_getElem?_getD];cases e:x[p]? with
          | none=>simp
          | some v=>simpa using G6 v (List.mem_of_getElem? e)
         rw[hit]at u;rw[hh,Sn];rw[qP]at c3 K Z;rw[P]at dT wT E Z;rw[hh]at F Y;rw[uz]at Y;rw[o]at L wT Y;rw[Sn]at E;rw[G]at c3⊢
         have jK:0<=h/\h<=32768/\0<=V/\V<=32768/\(C:Int)<=V/\(0:Int)<=ct/\(ct:Int)<=288/\(1:Int)<=d/\(d:Int)<=15/\(d:Int)<=(a:Int)/\(0:Int)<=C/\(C:Int)=2*(U:Int)/\(0:Int)<=U/\V=2*h+b/\0<=b/\b<=1/\(at_:Int)+(d:Int)<=(nb:Int)/\(U:Int)<=18874368/\(0:Int)<=at_:=by
          have:=jS.out;omega
         have cd:((at_:Int)+(d:Int)-1).toNat=at_+p:=ω;have ca:(at_:Int)+(d:Int)-1=((at_+p:Nat):Int):=ω;by_cases bp:V<(C:Int)+(ct:Int)
         · have t:fh l x (p+1)=p+1:=by rw[u,if_pos ξ]
           have ab:p+1<=min x.length a:=ω;have ac:fh l x (min x.length a)=p+1:=by rw[nV (m:=p+1) (by rw[t];omega) ab,t]
           obtain⟨J,hJ⟩ :=Int.eq_ofNat_of_zero_le (show 0<=V-(C:Int) by omega);obtain⟨s,al,D,hs3,gZ⟩ :=xM l (n:=p+1) (j:=J) (k:=l.length) (by rw[qP];omega)
           have zP:ae l x=((s:Int),p+1,0):=by
            rw[I.out,ac,if_pos ω,o,P];have:(V-(C:Int)).toNat=J:=ω;rw[this];unfold xi;rw[gZ]
           rw[G]at zP D;have Nw:∀i,ix l i=(d:Int)->bQ l i=C+cnt l i d:=λi hi=>by rw[l8 ω ω hi,<-P,G]
           have bt:Hid ((bQ l s:Int)=V):=by show _=_;rw[Nw s D,<-G,hs3];omega
           have bv:Hid (∀i,i<s->ix l i=(d:Int)->¬(bQ l i:Int)=V):=λi hi he e=>by
            have R:=l7 hi he;rw[Nw i he]at e;rw[G]at hs3;omega
           have K:Hid (∀i:Nat,(bQ l i:Int)<4294967296):=λi=>by
            unfold bQ
            split
            · rename_i hi
              unfold isLen at hi;have R:=pq l jS.out (v:=(ix l i).toNat) (by simp at hi;omega);have h2:=gS l l.length (ix l i).toNat;have h3:cnt l i (ix l i).toNat<=i:=gS l i _;by_cases ce:i<=l.length
              · have:=jS.out;omega
              · have:ix l i=0:=by unfold ix;rw[List.getD_eq_getElem?_getD,List.getElem?_eq_none ω];rfl
                simp [this]at hi
            · omega
           have bG:=η zP;have tX:=η D;have xK:s<n:=by rw[T.out];exact al
           clear zP gZ hs3 D hJ t ac u hit Nw Sn P qP o hh uz G Y F L wT G2 wy tq dT E Z e4 xH ab;obtain⟨jU,kW,jh,zP,YW,K5,aA,ap,ao,an,bi,be,bb,X9,aS,aI,Xb,aE,aC⟩ :=jK;obtain rfl:V=h*2+b:=ω;clear X9;have bo:h*2+b<(U:Int)*2+(ct:Int):=ω;clear bp
           go_wp2_with fail
           go_loopw [17] (ZQ wr s) (λi _=>s+1-(intOf i).toNat)
           case atStart=>exact⟨0,0,Nat.zero_le _,rfl,rfl⟩
           case round=>
            obtain⟨j,q,hj,rfl,rfl⟩ :=hrel;have qj:j<n:=ω;have Ui:(j:Int)<(n:Int)/\(0:Int)<=j:=ω;obtain⟨ci,rfl,_,N⟩ :=(hl.below c).at_ qj;obtain⟨ck,rfl,_,O⟩ :=(hc.below c).at_ qj;rw[lI l jS.out (by rw[<-T.out];exact qj)]at O;have ah:=K.out j;obtain⟨cj,z⟩ :=ν (bQ l j);obtain⟨y,W⟩ :=ν (ix l j);rw[z]at O ah;rw[W]at N;by_cases bn:j=s
            · subst bn;have e1:y=(d:Int):=by rw[<-W];exact tX.out
              have S:(cj:Int)=h*2+b:=by rw[<-z];exact bt.out
              rw[e1]at N;rw[S]at O;clear W z e1 S ah
              go_wp2_with fail
              go_ret3
              unfold eX;rw[bG.out];exact⟨rfl,below_drewN c q⟩
            · have kW:y=(d:Int)->¬(cj:Int)=h*2+b:=λe=>by rw[<-z];exact bv.out j ω (by rw[W];exact e)
              clear W z;by_cases r:y=(d:Int)
              · have S:((cj:Int)==h*2+b)=false:=by simpa using kW r
                rw[r]at N;clear kW r
                go_wp2_with fail
                go_roundw
                case rel=>exact⟨j+1,q,ω,by go_num,rfl⟩
                case measure=>simp [intOf];omega
              · have S:(y==(d:Int))=false:=by simpa using r
                clear kW r
                go_wp2_with fail
                go_roundw
                case rel=>exact⟨j+1,q,ω,by go_num,rfl⟩
                case measure=>simp [intOf];omega
         · have t:Hid (fh l x (p+1)=0):=by show _=_;rw[u,if_neg ξ]
           have HV:=η o;have wh:=η G;have am:Hid (vr l (p+1+1)=C+ct):=Z;clear u hit Sn P qP o hh uz G Y F L wT G2 wy tq dT E Z e4 xH;obtain⟨jU,kW,jh,zP,YW,K5,aA,ap,ao,an,bi,be,bb,X9,aS,aI,Xb,aE,aC⟩ :=jK;obtain rfl:V=h*2+b:=ω;clear X9;have bo:¬(h*2+b<(U:Int)*2+(ct:Int)):=ω
           go_wp2_with fail
           go_roundw
           case rel=>exact⟨d+1,ω,ω,ω,by go_num,by rw[Nat.add_sub_cancel,<-wh.out,HV.out],by rw[<-wh.out,am.out];go_num,by rw[Nat.add_sub_cancel,<-wh.out];exact t,B,c⟩
           case measure=>simp [intOf];omega
       · have bB:min x.length a=p:=ω;have tj:ae l x=(0,0,5):=by rw[I.out,bB,if_neg (by simpa using Q.out),if_pos ω]
         have BK:=η tj;have hI:(nb:Int)<(at_:Int)+((p+1:Nat):Int)/\(p:Int)+1<=(a:Int):=ω;obtain⟨V,o⟩ :=ν (hv x p);rw[o];clear tj o;go_wp2
         go_ret3
         unfold eX;rw[BK.out];exact⟨rfl,c⟩
     · obtain rfl:k=a+1:=ω;rw[Nat.add_sub_cancel]at Q⊢;have bl:min x.length a=a:=ω
       have tj:ae l x=if a=0/\x.length=0 then(0,0,5)else(0,0,3):=by
        have e1:¬fh l x a≠0:=by have:=Q.out;omega
        have S:¬a<a:=ω;rw[I.out,bl,if_neg e1,if_neg S]
       have BK:=η tj;obtain⟨V,o⟩ :=ν (hv x a);rw[o];have mA:((a+1:Nat):Int)=(a:Int)+1:=ω;clear tj o;by_cases g:a=0
       · by_cases R:x.length=0
         · have e:Hid (ae l x=(0,0,5)):=by show _=_;rw[BK.out,if_pos ⟨g,R⟩]
           have fW:(nb:Int)<=(at_:Int):=ω;subst g;clear R
           go_wp2_with fail
           go_ret3
           unfold eX;rw[e.out];exact⟨rfl,c⟩
         · have e:Hid (ae l x=(0,0,3)):=by show _=_;rw[BK.out,if_neg (λh=>R h.2)]
           have fW:¬(nb:Int)<=(at_:Int):=ω;subst g;clear R
           go_wp2_with fail
           go_ret3
           unfold eX;rw[e.out];exact⟨rfl,c⟩
       · have e:Hid (ae l x=(0,0,3)):=by show _=_;rw[BK.out,if_neg (λh=>g h.1)]
         have e0:((a:Int)==0)=false:=by simpa using g
         clear g
         go_wp2_with fail
         go_ret3
         unfold eX;rw[e.out];exact⟨rfl,c⟩
section
variable {b:List Int} {M k m:Nat}
theorem IS.Steps.a2F {s t:IS} (h:IS.Steps s t):t.mu<=s.mu:=by
 induction h with
 | refl=>exact Nat.le_refl _
 | tail _ h2 ih=>exact Nat.le_trans (Nat.le_of_lt (IS.ek h2)) ih
end
end Go.Proofs.YtddhegejmkgmjaaGreat
