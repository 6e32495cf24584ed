/-
  part
-/
import Derived.Test.YtgiimmkmjpbecaaGreatPk1
import Derived.Maps.AppendAt
import Derived.OwnWalk
set_option linter.unusedVariables false
set_option maxRecDepth 100000
set_option maxHeartbeats 4000000
namespace Go.Proofs.YtgiimmkmjpbecaaGreat
def fA (f:Int->Int) (S:ag):List Pk:=S.map λs=> ⟨f s,[s]⟩
def GF (f:Int->Int) (S:ag) (m:Nat):ag:=rY ((lev (fA f S) (m-1)).take (2*S.length-2))
def tN (f:Int->Int) (S:ag) (m:Nat) (s:Int):Nat:=(GF f S m).count s
def tF:List Nat->Nat->Nat
 | [],_=>0
 | b::B,r=>(if r<b then 1 else 0)+tF B r
def Tc:List Nat->Nat->Nat
 | [],_=>0
 | b::B,r=>(if r<b then 2 ^ B.length else 0)+Tc B r
section
variable {f:Int->Int} {S:ag} {m n:Nat}
theorem Uh (f:Int->Int) (S:ag):rY (fA f S)=S:=by
 induction S with
 | nil=>rfl
 | cons s S a=>rw[fA,List.map_cons,vr];show [s]++rY (fA f S)=_;rw[a];rfl
theorem MO (f:Int->Int) (S:ag) (b:Nat):(fA f S).take b=fA f (S.take b):=by unfold fA;rw[List.map_take]
theorem kj (f:Int->Int) (S:ag):(fA f S).length=S.length:=by simp [fA]
theorem FW (h:S.Pairwise λs t=>f s<=f t):SI (fA f S):=by
 unfold SI fA;rw[List.pairwise_map];exact h
theorem km:∀p∈fA f S,∃s∈S,p.w=f s/\p.l=[s]:=λp hp=>by
 obtain⟨s,hs,rfl⟩ :=iv.1 hp;exact⟨s,hs,rfl,rfl⟩
theorem a3M (l:List Nat) (h:∀x∈l,1<=x):l.length<=l.sum:=by
 induction l with
 | nil=>exact af _
 | cons x l a=>
   have:=h x aI;have:=a λy b=>h y (aJ _ b);simp only [List.length_cons,List.sum_cons];omega
theorem Kg {a b:List Nat} (h:a.Perm b):a.sum=b.sum:=by
 induction h with
 | nil=>rfl
 | cons x _ ih=>rw[List.sum_cons,List.sum_cons,ih]
 | swap x y l=>simp only [List.sum_cons];omega
 | trans _ _ h1 h2=>exact h1.trans h2
theorem RQ (S:ag):(List.range S.length).map (ix S)=S:=by
 apply fx
 · simp
 intro i b a;simp [ix,a]
theorem Es (b c:Nat):∀n,b<=n->((List.range n).map λr=>if r<b then c else 0).sum=b*c:=by
 intro n;induction n generalizing b with
 | zero=>intro h;obtain rfl:b=0:=ω
         simp
 | succ n a=>
   intro h;rw[List.range_succ,eQ,List.sum_append];by_cases e:b=n+1
   · subst e
     have f:((List.range n).map λr=>if r<n+1 then c else 0)=(List.range n).map λr=>if r<n then c else 0:=dn λr d=>by
      have:=List.mem_range.1 d;rw[aa ω,aa ω]
     rw[f,a n (af _)];simp [Nat.add_mul]
   rw[a b ω];simp only [List.map_cons,List.map_nil,List.sum_cons,List.sum_nil];rw[a8 ω];omega
theorem sum_add {α:Type} (l:List α) (g h:α->Nat):(l.map λx=>g x+h x).sum=(l.map g).sum+(l.map h).sum:=by
 induction l with
 | nil=>rfl
 | cons x l a=>simp only [List.map_cons,List.sum_cons,a];omega
theorem a3t (B:List Nat) (n:Nat) (h:∀b∈B,b<=n):((List.range n).map (Tc B)).sum=NP B:=by
 induction B with
 | nil=>simp only [Tc,NP];induction n with
        | zero=>rfl
        | succ n a=>rw[List.range_succ,eQ,List.sum_append,a σ];rfl
 | cons b B a=>
   have e:(Tc (b::B))=λr=>(if r<b then 2 ^ B.length else 0)+Tc B r:=by funext r;rfl
   rw[e,sum_add,Es _ _ _ (h b aI),NP,a λc d=>h c (aJ _ d)]
theorem TW (B:List Nat) (r:Nat) (h:∀b∈B,b<=r):tF B r=0/\Tc B r=0:=by
 induction B with
 | nil=>exact⟨rfl,rfl⟩
 | cons b B a=>
   have:=h b aI;obtain⟨f,e⟩ :=a λc d=>h c (aJ _ d);rw[tF,Tc,a8 ω,a8 ω,f,e];exact⟨rfl,rfl⟩
theorem Om (B:List Nat) (r:Nat):tF B r<=B.length:=by
 induction B with
 | nil=>exact af _
 | cons b B a=>rw[tF,br];split <;> omega
theorem a3s (B:List Nat) (r:Nat) (i:B.Pairwise λc d=>d<=c):2 ^ (B.length-tF B r)+Tc B r=2 ^ B.length:=by
 induction B with
 | nil=>rfl
 | cons b B g=>
   obtain⟨k,j⟩ :=aV.1 i;have a:=Om B r;by_cases h:r<b
   · rw[tF,Tc,aa h,aa h,br,show B.length+1-(1+tF B r)=B.length-tF B r by omega,fE];have:=g j;omega
   obtain⟨f,e⟩ :=TW B r λc a=>by have:=k c a;omega
   rw[tF,Tc,a8 h,a8 h,f,e];rfl
theorem sq {S:ag} {r:Nat} (a:r<S.length):ix S r∈S:=by
 have:ix S r=S[r]:=by simp [ix,a]
 rw[this];exact cF a
theorem Lv (j:S.Nodup) {r:Nat} (f:r<S.length) (b:Nat):(S.take b).count (ix S r)=if r<b then 1 else 0:=by
 induction S generalizing r b with
 | nil=>simp at f
 | cons x a i=>
   obtain⟨g,k⟩ :=List.nodup_cons.1 j;cases b with
   | zero=>simp
   | succ b=>
     rw[dc,List.count_cons];cases r with
     | zero=>
       have e:ix (x::a) 0=x:=rfl;rw[e,List.count_eq_zero_of_not_mem λh=>g (aN h)];simp
     | succ r=>
       have c:r<a.length:=by simpa using f
       have e:ix (x::a) (r+1)=ix a r:=rfl;have d:x≠ix a r:=λh=>g (by rw[h];exact sq c);rw[e,i k c];simp [d]
theorem Lu (d:S.Nodup) {r:Nat} (c:r<S.length) (B:List Nat):(B.flatMap λb=>S.take b).count (ix S r)=tF B r:=by
 induction B with
 | nil=>rfl
 | cons b B a=>rw[List.flatMap_cons,gg,a,Lv d c,tF]
theorem MU (f:Int->Int) (S:ag) (k:Nat):∀p∈lev (fA f S) k,p.w=(p.l.map f).sum/\∀s∈p.l,s∈S:=by
 have b:∀p∈fA f S,p.w=(p.l.map f).sum/\∀s∈p.l,s∈S:=λp hp=>by
  obtain⟨s,hs,i,g⟩ :=km p hp;rw[i,g];refine⟨σ,λt ht=> ?_⟩;rw[bk.1 ht];exact hs
 induction k with
 | zero=>exact b
 | succ k a=>
   intro p hp;rcases aQ.1 ((pO _ _).mem_iff.1 hp)with h | h
   · exact b p h
   obtain⟨c,e,d,hd,m,j⟩ :=tA _ p h;obtain⟨c1,c2⟩ :=a c e;obtain⟨d1,d2⟩ :=a d hd;rw[m,j,c1,d1];refine⟨σ,λs hs=> ?_⟩;rcases aQ.1 hs with h | h
   · exact c2 s h
   exact d2 s h
structure a1O (f:Int->Int) (S:ag) (m:Nat) (g:Int->Nat):Prop where
 out:∀s,s∉S->g s=0
 bd:∀s∈S,1<=g s/\g s<=m
 whole:(S.map λs=>2 ^ (m-g s)).sum=2 ^ m
theorem xq (E:S.Nodup) (hs:S.Pairwise λs t=>f s<=f t) (L:∀s∈S,0<=f s) (U:2<=S.length) (o:1<=m) (H:S.length<=2 ^ m):a1O f S m (tN f S m):=by
 have hF:=FW hs
 have j:∀p∈fA f S,0<=p.w:=λp hp=>by
  obtain⟨s,J,u,_⟩ :=km p hp;rw[u];exact L s J
 obtain⟨K,rfl⟩ :∃K,m=K+1:= ⟨m-1,ω⟩;have g:=Jv (F:=fA f S) (n:=2) (k:=K) (by rw[kj,ez,<-fE];exact H);rw[kj]at g;obtain⟨A,B,z,y,N,v,M, -⟩ :=Rs hF j K (2*S.length-2) ω;rw[kj]at y
 have q:(GF f S (K+1)).Perm ((A::B).flatMap λb=>S.take b):=by
  have e:(λb=>rY ((fA f S).take b))=λb=>S.take b:=by funext b;rw[MO,Uh]
  rw[e]at v;exact v
 have c:∀r,r<S.length->tN f S (K+1) (ix S r)=tF (A::B) r:=λr a=>by
  unfold tN;rw[q.count_eq,Lu E a]
 have d:∀s∈S,∃r,r<S.length/\ix S r=s:=λs hs=>by
  obtain⟨r,a,e⟩ :=List.getElem_of_mem hs;exact⟨r,a,by simp [ix,a,e]⟩
 have i:∀s∈S,tN f S (K+1) s<=K+1:=λs hs=>by
  obtain⟨r,a,rfl⟩ :=d s hs;rw[c r a,<-z];exact Om _ _
 have l:(S.map λs=>2 ^ (K+1-tN f S (K+1) s)).sum=2 ^ (K+1):=by
  have R:(S.map λs=>2 ^ (K+1-tN f S (K+1) s))=(List.range S.length).map λr=>2 ^ (K+1-tF (A::B) r):=by
   have T:∀G:Int->Nat,S.map G=(List.range S.length).map λr=>G (ix S r):=λG=>by
    conv=>lhs;rw[<-RQ S,List.map_map]
    rfl
   rw[T];refine dn λr a=> ?_;rw[c r (List.mem_range.1 a)]
  have C:=sum_add (List.range S.length) (λr=>2 ^ (K+1-tF (A::B) r)) (Tc (A::B))
  have Q:(λr=>2 ^ (K+1-tF (A::B) r)+Tc (A::B) r)=λ_=>2 ^ (K+1):=by
   funext r
   have:=a3s (A::B) r N;rw[z]at this;exact this
  have P:((List.range S.length).map λ_=>2 ^ (K+1)).sum=S.length*2 ^ (K+1):=by
   have:=Es S.length (2 ^ (K+1)) S.length (af _);rw[<-this];congr 1;exact dn λr a=>by rw[aa (List.mem_range.1 a)]
  rw[Q,P,a3t _ _ y,M]at C;rw[R];have O:2*S.length-2=2*(S.length-1):=ω;rw[O,gY,Nat.mul_left_comm,<-Nat.pow_succ',Nat.succ_eq_add_one]at C
  have V:S.length*2 ^ (K+1)=(S.length-1)*2 ^ (K+1)+2 ^ (K+1):=by
   conv=>lhs;rw[show S.length=S.length-1+1 by omega,eo,Nat.one_mul]
  omega
 refine⟨λs hs=> ?_,λs hs=> ⟨?_,i s hs⟩,l⟩
 · refine List.count_eq_zero_of_not_mem λo=>hs ?_;obtain⟨b,_,I⟩ :=iP.1 (q.mem_iff.1 o);exact aN I
 rcases bD (tN f S (K+1) s)with h | h
 · exfalso
   have hp:=Kg ((List.perm_cons_erase hs).map λs=>2 ^ (K+1-tN f S (K+1) s));rw[List.map_cons,List.sum_cons,h,l,Nat.sub_zero]at hp
   have:=a3M ((S.erase s).map λs=>2 ^ (K+1-tN f S (K+1) s)) (λx D=>by
    obtain⟨t,_,rfl⟩ :=iv.1 D;exact fR _)
   rw[jw,List.length_erase_of_mem hs]at this;have u:(2:Nat) ^ (K+1)=2 ^ (K+1)+((S.erase s).map λs=>2 ^ (K+1-tN f S (K+1) s)).sum:=hp;omega
 exact h
end
def oU (a b:Int):Int:=if 0<a/\0<b/\b<=1048576/\a<=1048576 then a*b else 0
def eX (l f:ag):Nat->Int
 | 0=>0
 | k+1=>eX l f k+oU (ix l k) (ix f k)
theorem Dp (a b:Int):0<=oU a b/\oU a b<=1099511627776:=by
 unfold oU;split
 · rename_i h
   obtain⟨e,d,c,h4⟩ :=h;refine⟨Int.mul_nonneg ω ω, ?_⟩
   calc a*b<=1048576*1048576:=Int.mul_le_mul h4 c ω ω
    _=1099511627776:=by rfl
 omega
theorem mi (l f:ag) (k:Nat) (b:k<=1000):0<=eX l f k/\eX l f k<=1099511627776*k:=by
 induction k with
 | zero=>simp [eX]
 | succ k a=>
   have d:=a ω;have c:=Dp (ix l k) (ix f k);simp only [eX];omega
theorem zI {a b:Int} (e:0<a) (d:0<b) (c:b<=1048576) (h4:a<=1048576):oU a b=a*b:=by
 unfold oU;rw[aa ⟨e,d,c,h4⟩]
theorem Dq {a b:Int} (h:¬(0<a/\0<b/\b<=1048576/\a<=1048576)):oU a b=0:=by
 unfold oU;rw[a8 h]
def rK:ag->Int
 | []=>0
 | b::l=>b+256*rK l
theorem a0s (l:ag) (x:Int):rK (l++[x])=rK l+256 ^ l.length*x:=by
 induction l with
 | nil=>simp [rK]
 | cons b l a=>
   show b+256*rK (l++[x])=b+256*rK l+256 ^ (l.length+1)*x;rw[a,Int.mul_add,ep,fD (256 ^ l.length) 256,Int.mul_assoc];omega
theorem Wf {l:ag} (h:∀x∈l,0<=x/\x<256):0<=rK l/\rK l<256 ^ l.length:=by
 induction l with
 | nil=>simp [rK]
 | cons b l a=>
   have e:=a λy c=>h y (aJ _ c);have d:=h b (aI ..);simp only [rK,List.length_cons,Int.pow_succ];omega
theorem tq {l:ag} (h:∀x∈l,0<=x/\x<256) (i:Nat):0<=ix l i/\ix l i<256:=by
 unfold ix;rw[au];cases hi:l[i]? with
 | none=>simp
 | some v=>exact h v (cu hi)
theorem GD {l:ag} {k:Nat} (h:k<l.length):l.take (k+1)=l.take k++[ix l k]:=by
 rw[List.take_add_one];simp [ix,h]
def nz (l:ag):Nat:=(l.takeWhile (· ≠0)).length
theorem a0C (x:Int) (l:ag):nz (x::l)=if x=0 then 0 else nz l+1:=by
 unfold nz;by_cases h:x=0 <;> simp [h]
def qa (l:ag) (a:Nat) (e:Int) (m:Nat):Int:=if e=0/\l.length-a<m then 5 else e
def wI (l:ag) (a:Nat) (e:Int) (m:Nat):Nat:=if qa l a e m=0 then a+m else a
def yf (l:ag) (a:Nat) (e:Int) (m:Nat):ag:=if qa l a e m=0 then(l.drop a).take m else []
def WC (l:ag) (a:Nat) (e:Int):Int:=if qa l a e 1=0 then ix l a else 0
def Hj (l:ag) (a:Nat) (e c:Int):Int:=if qa l a e 1=0/\ix l a≠c then 2 else qa l a e 1
def txR (r:ag):ag×Nat×Int:=
 if nz r<r.length/\nz r<=4096 then(r.take (nz r),nz r+1,0)else if 4096<r.length then([],0,2)else([],0,5)
def txF (l:ag) (a:Nat) (e:Int):Int:=if e=0 then(txR (l.drop a)).2.2 else e
def txA (l:ag) (a:Nat) (e:Int):Nat:=if e=0 then a+(txR (l.drop a)).2.1 else a
def txL (l:ag) (a:Nat) (e:Int):ag:=if e=0 then(txR (l.drop a)).1 else []
def gtE (e f:Int):Int:=if e=0/\31<f then 2 else e
def b1 (l:ag):Nat:=wI l 0 0 1
def q1 (l:ag):Int:=Hj l 0 0 31
def b2 (l:ag):Nat:=wI l (b1 l) (q1 l) 1
def q2 (l:ag):Int:=Hj l (b1 l) (q1 l) 139
def b3 (l:ag):Nat:=wI l (b2 l) (q2 l) 1
def q3 (l:ag):Int:=Hj l (b2 l) (q2 l) 8
def fB (l:ag):Int:=WC l (b3 l) (q3 l)
def b4 (l:ag):Nat:=wI l (b3 l) (q3 l) 1
def q4 (l:ag):Int:=gtE (qa l (b3 l) (q3 l) 1) (fB l)
def tmV (l:ag):Int:=rK (yf l (b4 l) (q4 l) 4)
def b5 (l:ag):Nat:=wI l (b4 l) (q4 l) 4
def q5 (l:ag):Int:=qa l (b4 l) (q4 l) 4
def flV (l:ag):Int:=WC l (b5 l) (q5 l)
def b6 (l:ag):Nat:=wI l (b5 l) (q5 l) 1
def q6 (l:ag):Int:=qa l (b5 l) (q5 l) 1
def syV (l:ag):Int:=WC l (b6 l) (q6 l)
def b7 (l:ag):Nat:=wI l (b6 l) (q6 l) 1
def q7 (l:ag):Int:=qa l (b6 l) (q6 l) 1
def xnV (l:ag):Int:=rK (yf l (b7 l) (q7 l) 2)
def b8 (l:ag):Nat:=wI l (b7 l) (q7 l) 2
def q8 (l:ag):Int:=qa l (b7 l) (q7 l) 2
def bit (f k:Int):Bool:=decide (f/k%2=1)
def exL (l:ag):ag:=if bit (fB l) 4 then yf l (b8 l) (q8 l) (xnV l).toNat else []
def b9 (l:ag):Nat:=if bit (fB l) 4 then wI l (b8 l) (q8 l) (xnV l).toNat else b7 l
def q9 (l:ag):Int:=if bit (fB l) 4 then qa l (b8 l) (q8 l) (xnV l).toNat else q7 l
def nmL (l:ag):ag:=if bit (fB l) 8 then txL l (b9 l) (q9 l)else []
def Y9 (l:ag):Nat:=if bit (fB l) 8 then txA l (b9 l) (q9 l)else b9 l
def WW (l:ag):Int:=if bit (fB l) 8 then txF l (b9 l) (q9 l)else q9 l
def cmL (l:ag):ag:=if bit (fB l) 16 then txL l (Y9 l) (WW l)else []
def PZ (l:ag):Nat:=if bit (fB l) 16 then txA l (Y9 l) (WW l)else Y9 l
def Tf (l:ag):Int:=if bit (fB l) 16 then txF l (Y9 l) (WW l)else WW l
theorem a3N {l:ag} (h:∀x∈l,0<=x/\x<256) (a:Nat) (e:Int) (m:Nat):∀x∈yf l a e m,0<=x/\x<256:=by
 unfold yf;split
 · exact λx b=>h x (aW (aN b))
 exact λx b=>by cases b
theorem a3O (l:ag) (a:Nat) (e:Int) (m:Nat):(yf l a e m).length<=m:=by
 unfold yf;split
 · rw[aD];omega
 simp
theorem XG {l:ag} {a:Nat} {e:Int} {m:Nat} (h:qa l a e m=0):e=0/\(m<=l.length-a):=by
 unfold qa at h;split at h
 · omega
 rename_i b
 exact⟨h,ω⟩
open Go.RowKit
def iL (m:Nat) (f:Nat->Value):Array Value:=((List.range m).map f).toArray
theorem jl (m:Nat) (f:Nat->Value):(iL m f).size=m:=by simp [iL]
theorem TJ {m i:Nat} (f:Nat->Value) (h:i<m):(iL m f)[i]?=some (f i):=by simp [iL,h]
theorem oG {m:Nat} {f f':Nat->Value} (h:∀i,i<m->f i=f' i):iL m f=iL m f':=by
 unfold iL;congr 1
 apply dn
 intro i hi;exact h i (by simpa using hi)
theorem PY (m:Nat) (f:Nat->Value) (i:Nat) (u:Value):(iL m f).setIfInBounds i u=iL m (upd f i u):=by
 apply Array.ext
 · simp [iL]
 intro j c b;have a:j<m:=by simpa [iL] using b
 rw[Array.getElem_setIfInBounds (by simpa [iL] using a)];by_cases e:i=j
 · subst e;simp [iL,upd]
 rw[a8 e];simp [iL,upd];intro h;exact absurd h.symm e
def pV (w:World) (g:Nat) (t:TypeId) (m:Nat) (f:Nat->Value):Prop:=w.heap[g]?=some (.cells (iL m f) t (0,0))
section
variable {w w':World} {g m:Nat} {t:TypeId} {f:Nat->Value}
theorem pV.ar (h:pV w g t m f):Ar w g m f:= ⟨_,t,(0,0),h, .inr rfl,by rw[jl];exact af _,λi hi=>TJ f hi⟩
theorem pV.lt (h:pV w g t m f):g<w.heap.size:=gp h
theorem pV.cell (h:pV w g t m f) {i:Nat} (hi:i<m):w.cell? ⟨g,i,none⟩ =some (f i):=h.ar.cell hi
theorem pV.frozen (h:pV w g t m f) (i:Nat):w.frozen? ⟨g,i,none⟩ =false:=by
 unfold pV at h;simp [World.frozen?,h]
theorem pV.same (h:pV w g t m f) (a:w'.heap[g]?=w.heap[g]?):pV w' g t m f:=a.trans h
theorem pV.alloc (h:pV w g t m f) (o:Obj):pV (w.alloc o) g t m f:=h.same (eE w o g h.lt)
theorem pV.far (h:pV w g t m f) {p:Addr} (hp:g≠p.block) (u:Value):pV (w.setCell p u) g t m f:=h.same (cS w p u g hp)
theorem pV.congr {f':Nat->Value} (h:pV w g t m f) (hf:∀i,i<m->f i=f' i):pV w g t m f':=by
 unfold pV at*;rw[h,oG hf]
theorem pV.iz (h:pV w g t m f) (i:Nat) (u:Value):pV (w.setCell ⟨g,i,none⟩ u) g t m (upd f i u):=by
 unfold pV at*;rw[<-PY];simp [World.setCell,Array.getElem?_modify,h]
theorem pV.new {g:Nat} (a:g=w.heap.size) (cs:Array Value) (t:TypeId) (h:cs=iL m f):pV (w.alloc (.cells cs t)) g t m f:=by
 subst a;subst h;exact cR w _
theorem pV.row (h:pV w g t m f) (a:Nat) (f':Nat->Value):pV (w.setRow g (iL a f')) g t a f':=setRow_heap w g _ _ t (0,0) h
theorem uZ {B:Nat} {a:World} (h:Below B a w) (c:B<=g) (cs:Array Value):Below B a (w.setRow g cs):=
 h.trans ⟨rfl,rfl,rfl,σ,λk b=>setRow_other w g k cs ω⟩
end
theorem Df (m:Nat) (f:Nat->Value) (h:∀i,i<m->(f i).oneCell'=true):(iL m f).all (·.oneCell')=true:=by
 rw[Array.all_eq_true_iff_forall_mem];intro v hv;simp [iL]at hv;obtain⟨i,hi,rfl⟩ :=hv;exact h i hi
def WT:Nat:=3988292384
def NI (x:Nat):Nat:=if x%2=1 then(x/2) ^^^ WT else x/2
def vW:Nat->Nat->Nat
 | 0,x=>x
 | k+1,x=>NI (vW k x)
theorem a0W (a b:Nat):NI (a ^^^ b)=NI a ^^^ NI b:=by
 unfold NI;rw[Nat.xor_div_two];have e:(a ^^^ b)%2=1↔¬(a%2=1↔b%2=1):=Nat.xor_mod_two_eq_one;by_cases d:a%2=1 <;> by_cases c:b%2=1
 · rw[a8 (by rw[e];simp [d,c]),aa d,aa c]
   apply gC
   intro i;simp only [Nat.testBit_xor];cases (a/2).testBit i <;> cases (b/2).testBit i <;> cases WT.testBit i <;> rfl
 · rw[aa (by rw[e];simp [d,c]),aa d,a8 c]
   apply gC
   intro i;simp only [Nat.testBit_xor];cases (a/2).testBit i <;> cases (b/2).testBit i <;> cases WT.testBit i <;> rfl
 · rw[aa (by rw[e];simp [d,c]),a8 d,aa c]
   apply gC
   intro i;simp only [Nat.testBit_xor];cases (a/2).testBit i <;> cases (b/2).testBit i <;> cases WT.testBit i <;> rfl
 rw[a8 (by rw[e];simp [d,c]),a8 d,a8 c]
theorem Xv (k a b:Nat):vW k (a ^^^ b)=vW k a ^^^ vW k b:=by
 induction k with
 | zero=>rfl
 | succ k c=>simp only [vW,c,a0W]
theorem Xx (q:Nat):NI (2*q)=q:=by unfold NI;rw[a8 ω];omega
theorem Sh (k q:Nat):vW k (2 ^ k*q)=q:=by
 induction k generalizing q with
 | zero=>simp [vW]
 | succ k a=>
   have e:2 ^ (k+1)*q=2 ^ k*(2*q):=by rw[fE,gY]
   simp only [vW];rw[e,a,Xx]
theorem Xy {x:Nat} (h:x<4294967296):NI x<4294967296:=by
 unfold NI;split
 · exact Nat.xor_lt_two_pow (n:=32) ω (by unfold WT;omega)
 omega
theorem a0V {x:Nat} (h:x<4294967296) (k:Nat):vW k x<4294967296:=by
 induction k with
 | zero=>exact h
 | succ k a=>exact Xy a
theorem Wn (x c:Nat) (b:c<256):x ^^^ c=((x%256) ^^^ c) ^^^ (256*(x/256)):=by
 apply gC
 intro i;simp only [Nat.testBit_xor];have f:(x%256).testBit i=(decide (i<8)&&x.testBit i):=Nat.testBit_mod_two_pow x 8 i
 have d:(256*(x/256)).testBit i=(decide (8<=i)&&x.testBit i):=by
  have:(2 ^ 8*(x/256)).testBit i=(decide (i≥8)&&(x/256).testBit (i-8)):=Nat.testBit_two_pow_mul;rw[show(2:Nat) ^ 8=256 from rfl]at this;rw[this];by_cases h:8<=i
  · have e:(x/256).testBit (i-8)=x.testBit i:=by
     have:(x/2 ^ 8).testBit (i-8)=x.testBit (8+(i-8)):=by rw[Nat.testBit_div_two_pow,Nat.add_comm]
     rw[show(2:Nat) ^ 8=256 from rfl]at this;rw[this];congr 1;omega
    rw[e]
  simp [h]
 rw[f,d];by_cases h:i<8
 · have h':¬8<=i:=ω;simp [h,h']
 have h':8<=i:=ω;have a:c.testBit i=false:=fJ (aB b (bw (n:=2) ω h'));simp [h,h',a]
theorem Q8 (x c:Nat) (a:c<256):vW 8 ((x%256) ^^^ c) ^^^ (x/256)=vW 8 (x ^^^ c):=by
 rw[Wn x c a,Xv 8 ((x%256) ^^^ c),show 256*(x/256)=2 ^ 8*(x/256) from rfl,Sh]
def BN (x:Int):Int:=(NI x.toNat:Nat)
def mY (k:Nat) (x:Int):Int:=(vW k x.toNat:Nat)
def qU (a b:Int):Int:=(a.toNat ^^^ b.toNat:Nat)
def rT (x c:Int):Int:=mY 8 (qU x c)
def pD (x:Int) (l:ag):Nat->Int
 | 0=>x
 | k+1=>rT (pD x l k) (ix l k)
theorem BP {x:Int} (h:0<=x):mY 0 x=x:=by unfold mY vW;omega
theorem BO (k:Nat) (x:Int):mY (k+1) x=BN (mY k x):=by unfold BN mY;simp [vW]
theorem Kf (k:Nat) {x:Int} (h:0<=x/\x<4294967296):0<=mY k x/\mY k x<4294967296:=by
 unfold mY;have:=a0V (x:=x.toNat) ω k;omega
theorem PA {x:Int} (h:0<=x/\x<4294967296):0<=BN x/\BN x<4294967296:=by
 unfold BN;have:=Xy (x:=x.toNat) ω;omega
theorem GL {a b:Int} (h:0<=a/\a<4294967296) (h':0<=b/\b<4294967296):0<=qU a b/\qU a b<4294967296:=by
 unfold qU;have:=Nat.xor_lt_two_pow (x:=a.toNat) (y:=b.toNat) (n:=32) ω ω;omega
theorem XU {a b:Int} (h:0<=a/\a<256) (h':0<=b/\b<256):0<=qU a b/\qU a b<256:=by
 unfold qU;have:=Nat.xor_lt_two_pow (x:=a.toNat) (y:=b.toNat) (n:=8) ω ω;omega
theorem Dr {x c:Int} (h:0<=x/\x<4294967296) (h':0<=c/\c<256):0<=rT x c/\rT x c<4294967296:=
 Kf 8 (GL h ω)
theorem Ov {x:Int} {l:ag} (h:0<=x/\x<4294967296) (b:∀i,0<=ix l i/\ix l i<256) (k:Nat):0<=pD x l k/\pD x l k<4294967296:=by
 induction k with
 | zero=>exact h
 | succ k a=>exact Dr a (b k)
theorem NM {x c:Int} (h:0<=x/\x<4294967296) (h':0<=c/\c<256):qU (mY 8 (qU (x%256) c)) (x/256)=rT x c:=by
 unfold rT qU mY;simp only [Int.toNat_natCast];have b:(x%256).toNat=x.toNat%256:=ω;have a:(x/256).toNat=x.toNat/256:=ω;rw[b,a,Q8 _ _ ω]
def uW (x:Int) (l:ag):Nat->Int
 | 0=>x
 | k+1=>(uW x l k+ix l k)%65521
def Ce (x y:Int) (l:ag):Nat->Int
 | 0=>y
 | k+1=>(Ce x y l k+uW x l (k+1))%65521
theorem TC {x:Int} {l:ag} (h:0<=x/\x<65521) (k:Nat):0<=uW x l k/\uW x l k<65521:=by
 cases k with
 | zero=>exact h
 | succ k=>simp only [uW];omega
theorem TD {x y:Int} {l:ag} (h:0<=y/\y<65521) (k:Nat):0<=Ce x y l k/\Ce x y l k<65521:=by
 cases k with
 | zero=>exact h
 | succ k=>simp only [Ce];omega
theorem jy (w:World) (o:Obj):(w.alloc o).heap.size=w.heap.size+1:=σ
def cat {α:Type} (n:Nat) (f g:Nat->α):Nat->α:=λi=>if i<n then f i else g (i-n)
def ai (A:ax):Option Nat:=A.map (·.block)
def Own (w:World) (b0:Nat) (e:TypeId) (sz:Nat) (A:ax) (n c:Nat) (f:Nat->Value):Prop:=
 (A=none/\n=0/\c=0)\/∃(g:Nat) (cur:Array Value),A=some ⟨g,0,none⟩/\b0<=g/\w.heap[g]?=some (.cells cur e (0,0))/\n<=c/\c<=maxLen/\cur.size=c*sz/\∀i,i<n*sz->cur[i]?=some (f i)
section
variable {w w':World} {b0:Nat} {e:TypeId} {sz n c:Nat} {A:ax} {f:Nat->Value}
theorem Own.di:Own w b0 e sz none 0 0 f:= .inl ⟨rfl,rfl,rfl⟩
theorem Own.keep (h:Own w b0 e sz A n c f) (d:∀g,ai A=some g->g<w.heap.size->w'.heap[g]?=w.heap[g]?):Own w' b0 e sz A n c f:=by
 rcases h with h | ⟨g,a,rfl,i,b,r⟩
 · exact .inl h
 exact .inr ⟨g,a,rfl,i,(d g rfl (gp b)).trans b,r⟩
theorem Own.alloc (h:Own w b0 e sz A n c f) (o:Obj):Own (w.alloc o) b0 e sz A n c f:=h.keep λg _ a=>eE w o g a
theorem Own.drewN (h:Own w b0 e sz A n c f) (k:Nat):Own (w.drewN k) b0 e sz A n c f:=h
theorem Own.far (h:Own w b0 e sz A n c f) {p:Addr} (hp:ai A≠some p.block) (u:Value):Own (w.setCell p u) b0 e sz A n c f:=
 h.keep λg a _=>cS w p u g (λe=>hp (by rw[a,e]))
theorem Own.below {B:Nat} (h:Own w b0 e sz A n c f) (b:Below B w w') (d:∀g,ai A=some g->g<B):Own w' b0 e sz A n c f:=h.keep λg a _=>b.block g (d g a)
theorem Own.grown {row:Option Nat} (h:Own w b0 e sz A n c f) (i:w.grownBy w' row) (b:ai A≠row\/ai A=none):Own w' b0 e sz A n c f:=
 h.keep λg a d=>i.block g d (λe=>by
  rcases b with b | b
  · exact b (a.trans e)
  rw[b]at a;cases a)
theorem Own.lt (h:Own w b0 e sz A n c f) {g:Nat} (a:ai A=some g):b0<=g/\g<w.heap.size:=by
 rcases h with ⟨rfl,_⟩ | ⟨j,i,rfl,d,b,_⟩
 · simp [ai]at a
 simp [ai]at a;subst a;exact⟨d,gp b⟩
theorem Own.congr {f':Nat->Value} (h:Own w b0 e sz A n c f) (hf:∀i,i<n*sz->f i=f' i):Own w b0 e sz A n c f':=by
 rcases h with h | ⟨g,a,m,l,k,j,d,b,h7⟩
 · exact .inl h
 exact .inr ⟨g,a,m,l,k,j,d,b,λi hi=>by rw[h7 i hi,hf i hi]⟩
theorem Own.more {b1:Nat} (h:Own w b0 e sz A n c f) (i:b1<=b0):Own w b1 e sz A n c f:=by
 rcases h with h | ⟨g,a,d,b,r⟩
 · exact .inl h
 exact .inr ⟨g,a,d,aq i b,r⟩
theorem Own.rd (h:Own w b0 e sz A n c f):Rd w w.heap.size A (n*sz) f:=λd=>by
 rcases h with ⟨_,rfl,_⟩ | ⟨g,a,rfl,_,b,j,_,h5,h6⟩
 · simp at d
 refine⟨_,rfl,gp b,λi hi=> ?_⟩;have:(⟨g,0,none⟩ :Addr).add i= ⟨g,i,none⟩ :=by unfold Addr.add;split <;> simp_all
 rw[this,ja w g i a e (0,0) b,h6 i hi]
theorem Own.iT (h:Own w b0 e sz A n c f):n<=c:=by
 rcases h with ⟨_,rfl,rfl⟩ | ⟨g,b,_,_,_,a,_⟩
 · exact af _
 exact a
theorem Own.owns (h:Own w b0 e sz A n c f):w.ownsRow b0 e sz (.slice A n c) n ((List.range (n*sz)).map f):=by
 refine⟨σ, ?_⟩;rcases h with ⟨rfl,rfl,rfl⟩ | ⟨g,a,rfl,j,d,b,h4,h5,h6⟩
 · exact .inl ⟨rfl,rfl⟩
 refine .inr ⟨g,c,a,rfl,j,d,b,h4,h5, ?_⟩
 apply List.ext_getElem?
 intro i;rw[ie];by_cases hi:i<n*sz
 · rw[aa hi];have:=h6 i hi;simp [hi,this]
 rw[a8 hi];simp [hi]
theorem JG {v:Value} {d:List Value} (h:w.ownsRow b0 e sz v n d) (j:∀i,i<n*sz->d[i]?=some (f i)):∃A c,v= .slice A n c/\Own w b0 e sz A n c f/\v.ownBlock=ai A:=by
 obtain⟨m,a⟩ :=h;rcases a with ⟨rfl,rfl⟩ | ⟨g,cap,b,rfl,l,a,k,h4,h5,h6⟩
 · exact⟨none,0,rfl, .inl ⟨rfl,rfl,rfl⟩,rfl⟩
 refine⟨_,_,rfl, .inr ⟨g,b,rfl,l,a,k,h4,h5,λi hi=> ?_⟩,rfl⟩;have:=j i hi;rw[<-h6,ie,aa hi]at this
 simpa using this
theorem Own.lit {g:Nat} (b:g=w.heap.size) (cs:Array Value) (e:TypeId) {n:Nat} (c:b0<=w.heap.size) (a:n<=maxLen) (hs:cs.size=n*sz) (hf:∀i,i<n*sz->cs[i]?=some (f i)):
  Own (w.alloc (.cells cs e)) b0 e sz (some ⟨g,0,none⟩) n n f:=by
 subst b;exact .inr ⟨_,cs,rfl,c,cR w _,af _,a,hs,hf⟩
theorem Own.iz {g:Nat} (h:Own w b0 e sz (some ⟨g,0,none⟩) n c f) {i:Nat} (hi:i<n*sz) (u:Value):Own (w.setCell ⟨g,i,none⟩ u) b0 e sz (some ⟨g,0,none⟩) n c (upd f i u):=by
 rcases h with ⟨h,_⟩ | ⟨o,a,hA,m,l,k,h4,h5,h6⟩
 · cases h
 cases hA;refine .inr ⟨_,a.setIfInBounds i u,rfl,m, ?_,k,h4,by simpa using h5,λj b=> ?_⟩
 · simp [World.setCell,Array.getElem?_modify,l]
 rw[fH];by_cases d:i=j
 · subst d;have:i<a.size:=by rw[h5];exact aB b (eV _ k)
   rw[aa rfl,aa this,upd_same]
 rw[a8 d,h6 j b,dA _ _ ω]
theorem Own.cell {g:Nat} (h:Own w b0 e sz (some ⟨g,0,none⟩) n c f) {i:Nat} (hi:i<n*sz):w.cell? ⟨g,i,none⟩ =some (f i):=by
 rcases h with ⟨h,_⟩ | ⟨k,a,hA,j,b,d,h4,h5,h6⟩
 · cases h
 cases hA;rw[ja w _ i a e (0,0) b,h6 i hi]
theorem Own.az {g:Nat} (h:Own w b0 e sz (some ⟨g,0,none⟩) n c f) (i:Nat) (hi:i<n*sz:=by(omega)):w.cell? ⟨g,i,none⟩ =some (f i):=h.cell hi
theorem Own.frozen {g:Nat} (h:Own w b0 e sz (some ⟨g,0,none⟩) n c f) (i:Nat):w.frozen? ⟨g,i,none⟩ =false:=by
 rcases h with ⟨h,_⟩ | ⟨j,b,hA,d,a,_⟩
 · cases h
 cases hA;simp [World.frozen?,a]
theorem Own.addr (h:Own w b0 e sz A n c f) (b:0<n):∃g,A=some ⟨g,0,none⟩ :=by
 rcases h with ⟨_,h,_⟩ | ⟨d,a,hA,_⟩
 · omega
 exact⟨_,hA⟩
end
section
variable {P:Program} (w:World)
theorem iY (b0:Nat) (t D e:TypeId) (i:TypeInfo) (z:Value) (sz bytes:Nat) (ht:P.underlying t=some (.slice e)) (hi:P.info? e=some i) (hz:i.zero=some z)
  (d:i.size=sz) (s:i.bytes=bytes) (r:z.cells.size=sz) (o:0<sz)
  (A:ax) (n c:Nat) (f:Nat->Value) (a:Own w b0 e sz A n c f)
  (B:Nat) (A':ax) (m c':Nat) (f':Nat->Value) (E:Rd w B A' (m*sz) f') (R:∀j,j<m*sz->(f' j).oneCell'=true)
  (x:n+m<=1000000000000) (N:bytes<=100) (k:b0<=w.heap.size):
  ∃A2 c2 w2,(Builtin.append_ #[t,t] D #[.slice A n c, .slice A' m c']).run P w= .ok (.slice A2 (n+m) c2) w2/\Own w2 b0 e sz A2 (n+m) c2 (cat (n*sz) f f')/\w.grownBy w2 (ai A)/\
   (ai A2=ai A\/ai A2=some w.heap.size):=by
 have K:m=0->Own w b0 e sz A (n+m) c (cat (n*sz) f f'):=by
  rintro rfl;exact a.congr λj b=>by unfold cat;rw[aa b]
 have q:(Value.slice A n c).ownBlock=ai A:=by cases A <;> rfl
 rcases A' with _ | C
 · have I:m=0:=by
    rcases bD m with y | y
    · exact y
    obtain⟨C,h,_⟩ :=E (Nat.mul_pos y o);cases h
   subst I;refine⟨A,c,w, ?_,K rfl,World.grownBy.refl w _, .inl rfl⟩;rcases a with ⟨rfl,rfl,rfl⟩ | ⟨g,S,rfl,_,_,H,_⟩
   · simp [Builtin.append_,run_underlying ht,sizeOf,typeInfo,hi,Builtin.lenOf,Builtin.firstCells]
   simp [Builtin.append_,run_underlying ht,sizeOf,typeInfo,hi,Builtin.lenOf,Builtin.firstCells,H,storeCells]
 have J:∀j u,((List.range (m*sz)).map f')[j]?=some u->w.cell? (C.add j)=some u:=by
  intro j u l
  have b:j<m*sz:=by
   rcases aU j (m*sz)with h' | h'
   · exact h'
   rw[bq (by simpa using h')]at l;cases l
  obtain⟨U,h,_,L⟩ :=E ω;injection h with h;subst h;rw[L j b]
  simpa [b] using l
 have F:∀u∈(List.range (m*sz)).map f',u.oneCell'=true:=by
  intro u l;obtain⟨j,b,rfl⟩ :=iv.1 l;exact R j (by simpa using b)
 have M:(n+m)*bytes<=140737488355328:=by
  calc (n+m)*bytes<=1000000000000*100:=gD x N
   _<=140737488355328:=ω
 obtain⟨T,w',p,Q,O,_,h5⟩ :=run_append_own_at (P:=P) w b0 t D e i z sz bytes ht hi hz d s r o _ n _ a.owns C m c' _ σ J F (by unfold maxLen;omega) M k
 obtain⟨A2,c2,rfl,G,v⟩ :=JG (f:=cat (n*sz) f f') Q (λj b=>by
  unfold cat;rw[eo]at b;by_cases h':j<n*sz
  · rw[aa h',bR (by simpa using h')];simp [h']
  rw[a8 h',bL ξ];have:j-n*sz<m*sz:=ω;simp [this])
 refine⟨A2,c2,w',p,G,by rw[<-q];exact O, ?_⟩;rw[<-v,<-q];exact h5
end
def aT (k:IntKind) (w:World) (b0:Nat) (e:TypeId) (A:ax) (n c:Nat) (l:ag):Prop:=n=l.length/\Own w b0 e 1 A n c (λi=> .int k (ix l i))
section
variable {k:IntKind} {w w':World} {b0:Nat} {e:TypeId} {n c:Nat} {A:ax} {l:ag}
theorem aT.di:aT k w b0 e none 0 0 []:= ⟨rfl,Own.di⟩
theorem aT.alloc (h:aT k w b0 e A n c l) (o:Obj):aT k (w.alloc o) b0 e A n c l:= ⟨h.1,h.2.alloc o⟩
theorem aT.drewN (h:aT k w b0 e A n c l) (j:Nat):aT k (w.drewN j) b0 e A n c l:=h
theorem aT.drew (h:aT k w b0 e A n c l):aT k w.drew b0 e A n c l:=h
theorem aT.far (h:aT k w b0 e A n c l) {p:Addr} (hp:ai A≠some p.block) (u:Value):aT k (w.setCell p u) b0 e A n c l:= ⟨h.1,h.2.far hp u⟩
theorem aT.below {B:Nat} (h:aT k w b0 e A n c l) (a:Below B w w') (b:∀g,ai A=some g->g<B):aT k w' b0 e A n c l:= ⟨h.1,h.2.below a b⟩
theorem aT.keeps (h:aT k w b0 e A n c l) (b:Below w.heap.size w w'):aT k w' b0 e A n c l:=h.below b λ_ a=>(h.2.lt a).2
theorem aT.grown {row:Option Nat} (h:aT k w b0 e A n c l) (b:w.grownBy w' row) (a:ai A≠row\/ai A=none):aT k w' b0 e A n c l:= ⟨h.1,h.2.grown b a⟩
theorem aT.more {b1:Nat} (h:aT k w b0 e A n c l) (a:b1<=b0):aT k w b1 e A n c l:= ⟨h.1,h.2.more a⟩
theorem aT.rd (h:aT k w b0 e A n c l):bT k w w.heap.size A n l:= ⟨h.1,by simpa using h.2.rd⟩
theorem aT.lit {g:Nat} (b:g=w.heap.size) (l:ag) (e:TypeId) (c:b0<=w.heap.size) (a:l.length<=maxLen):aT k (w.alloc (.cells (l.map (Value.int k)).toArray e)) b0 e (some ⟨g,0,none⟩) l.length l.length l:=
 ⟨rfl,Own.lit b _ e c a σ λi hi=>by rw[dK]at hi;simp [ix,hi]⟩
end
theorem dy (l l':ag) (i:Nat):ix (l++l') i=if i<l.length then ix l i else ix l' (i-l.length):=by
 unfold ix;simp only [List.getD_eq_getElem?_getD];split
 · rw[bR (by assumption)]
 rw[bL ω]
section
variable {P:Program} {w:World}
theorem Gt (k:IntKind) (b0:Nat) (t h e:TypeId) (i:TypeInfo) (bytes:Nat) (ht:P.underlying t=some (.slice e)) (hi:P.info? e=some i) (hz:i.zero=some (.int k 0))
  (b:i.size=1) (f:i.bytes=bytes) {A:ax} {n c:Nat} {l:ag} (a:aT k w b0 e A n c l) {B:Nat} {A':ax} {m c':Nat} {l':ag} (o:bT k w B A' m l')
  (g:n+m<=1000000000000) (p:bytes<=100) (d:b0<=w.heap.size):
  ∃A2 c2 w2,(Builtin.append_ #[t,t] h #[.slice A n c, .slice A' m c']).run P w= .ok (.slice A2 (n+m) c2) w2/\aT k w2 b0 e A2 (n+m) c2 (l++l')/\w.grownBy w2 (ai A)/\
   (ai A2=ai A\/ai A2=some w.heap.size):=by
 obtain⟨A2,c2,w2,s,r,q,h4⟩ :=iY (P:=P) w b0 t h e i (.int k 0) 1 bytes ht hi hz b f rfl ω A n c _ a.2 B A' m c' _ (by rw[dK];exact o.2) (λ_ _=>rfl) g p d;refine⟨A2,c2,w2,s, ⟨by rw[ae,<-a.1,<-o.1],r.congr λj u=> ?_⟩,q,h4⟩;unfold cat;rw[dy,<-a.1,dK];split <;> rfl
theorem bm {b:Array Oper} {rest:List Oper} {o:Oper} {a:Act} {Q:Exit->Act->World->Prop} (k:IntKind) (b0:Nat) (e:TypeId) (i:TypeInfo) (bytes:Nat) (p:Region.wanted o (yielded b a.tmps)=true) (s x:Operand) (t:TypeId)
  (y:o.op= .call { callee:= .builtin .append,args:= #[s,x],argTypes:= #[t,t] }) (ht:P.underlying t=some (.slice e)) (hi:P.info? e=some i) (hz:i.zero=some (.int k 0))
  (d:i.size=1) (q:i.bytes=bytes) {A:ax} {n c:Nat} {l:ag} (hs:a.eval s= .slice A n c) (j:aT k w b0 e A n c l)
  {B:Nat} {A':ax} {m c':Nat} {l':ag} (u:a.eval x= .slice A' m c') (v:bT k w B A' m l')
  (r:n+m<=1000000000000) (z:bytes<=100) (f:b0<=w.heap.size)
  (h:∀A2 c2 w2,aT k w2 b0 e A2 (n+m) c2 (l++l')->w.grownBy w2 (ai A)->(ai A2=ai A\/ai A2=some w.heap.size)->wpList P b Q rest (a.put o.dst (.slice A2 (n+m) c2)) w2):wpList P b Q (o::rest) a w:=by
 refine wpList_step λK C=> ?_;rw[aa p];obtain⟨A2,c2,w2,g,E,D,h4⟩ :=Gt (P:=P) (w:=w) k b0 t o.type e i bytes ht hi hz d q j (c':=c') v r z f;unfold Oper.wp execOp;simp only [y,resolve,invoke,builtin,Sem.run_bind,Sem.run_pure,Result.andThen_ok,List.map_toArray,List.map_cons,List.map_nil,hs,u,g];exact C _ _ (h A2 c2 w2 E D h4)
end
theorem I1 {b0:Nat} {w0 w w':World} {A:ax} (b:Below b0 w0 w) (a:w.grownBy w' (ai A)) (c:b0<=w.heap.size) (hA:∀g,ai A=some g->b0<=g):Below b0 w0 w':=b.grown a c hA
theorem nW (g i:Nat):(⟨g,0,none⟩ :Addr).add i= ⟨g,i,none⟩ :=by unfold Addr.add;split <;> simp_all
def foot (A:ax) (g:Nat) (k:Nat):Prop:=k=g\/ai A=some k
structure bb (w w':World) (S:Nat->Prop):Prop where
 os:w'.os=w.os
 tape:w'.tape=w.tape
 output:w'.output=w.output
 size:w.heap.size<=w'.heap.size
 block:∀k,k<w.heap.size->¬S k->w'.heap[k]?=w.heap[k]?
section
variable {w w' w'':World} {S S':Nat->Prop}
theorem bb.refl (w:World) (S:Nat->Prop):bb w w S:= ⟨rfl,rfl,rfl,af _,λ_ _ _=>rfl⟩
theorem bb.trans (h:bb w w' S) (h':bb w' w'' S') (hs:∀k,S' k->S k\/w.heap.size<=k):bb w w'' S:=
 ⟨h'.os.trans h.os,h'.tape.trans h.tape,h'.output.trans h.output,aq h.size h'.size,λk a b=>
   (h'.block k (aB a h.size) (λd=>by rcases hs k d with c | c;exact b c;omega)).trans (h.block k a b)⟩
theorem bb.more (h:bb w w' S) (hs:∀k,S k->S' k):bb w w' S':= ⟨h.os,h.tape,h.output,h.size,λk a b=>h.block k a λc=>b (hs k c)⟩
theorem bb.drew (h:bb w w' S):bb w w'.drew S:= ⟨h.os,h.tape,h.output,h.size,h.block⟩
theorem bb.drewN (h:bb w w' S) (n:Nat):bb w (w'.drewN n) S:= ⟨h.os,h.tape,h.output,h.size,h.block⟩
theorem bb.alloc (h:bb w w' S) (o:Obj):bb w (w'.alloc o) S:=
 ⟨h.os,h.tape,h.output,aq h.size σ,λk a b=>(eE w' o k (aB a h.size)).trans (h.block k a b)⟩
theorem bb.setCell (h:bb w w' S) {p:Addr} (hp:S p.block\/w.heap.size<=p.block) (u:Value):bb w (w'.setCell p u) S:=
 ⟨h.os,h.tape,h.output,by simpa [World.setCell] using h.size,λk b a=>(cS w' p u k (by
   rintro rfl;rcases hp with hp | hp
   · exact a hp
   omega)).trans (h.block k b a)⟩
theorem bb.grown (h:bb w w' S) {row:Option Nat} (a:w'.grownBy w'' row) (f:∀k,row=some k->S k\/w.heap.size<=k):bb w w'' S:=
 ⟨a.os.trans h.os,a.tape.trans h.tape,a.output.trans h.output,aq h.size a.size,λk b c=>
   (a.block k (aB b h.size) (λe=>by rcases f k e.symm with d | d;exact c d;omega)).trans (h.block k b c)⟩
theorem bb.bC (h:Below w.heap.size w w'):bb w w' S:= ⟨h.os,h.tape,h.output,h.size,λk a _=>h.block k a⟩
theorem bb.below {b0:Nat} (h:bb w w' S) (hs:∀k,S k->b0<=k) (c:b0<=w.heap.size):Below b0 w w':=
 ⟨h.os,h.tape,h.output,h.size,λk b=>h.block k ω λa=>by have:=hs k a;omega⟩
theorem bb.cell (h:bb w w' S) {p:Addr} (hp:p.block<w.heap.size) (a:¬S p.block):w'.cell? p=w.cell? p:=eW (w:=w) (h.block p.block hp a)
theorem bb.ar {g m:Nat} {f:Nat->Value} (h:bb w w' S) (a:Ar w g m f) (b:¬S g):Ar w' g m f:=a.same (h.block g a.lt b)
theorem bb.own {b0:Nat} {e:TypeId} {sz n c:Nat} {A:ax} {f:Nat->Value} (h:bb w w' S) (d:Own w b0 e sz A n c f) (i:∀g,ai A=some g->¬S g):Own w' b0 e sz A n c f:=
 d.keep λg b a=>h.block g a (i g b)
theorem bb.dJ {k:IntKind} {b0:Nat} {e:TypeId} {n c:Nat} {A:ax} {l:ag} (h:bb w w' S) (a:aT k w b0 e A n c l) (b:∀g,ai A=some g->¬S g):aT k w' b0 e A n c l:=
 ⟨a.1,h.own a.2 b⟩
theorem bb.rp {k:IntKind} {B n:Nat} {A:ax} {l:ag} (h:bb w w' S) (c:bT k w B A n l) (j:B<=w.heap.size) (g:0<n->∀a,A=some a->¬S a.block):bT k w' B A n l:=
 ⟨c.1,λb=>by
   obtain⟨a,e,f,d⟩ :=c.2 b;exact⟨a,e,f,λi hi=>(h.cell (by rw[bH];omega) (by rw[bH];exact g b a e)).trans (d i hi)⟩⟩
end
theorem lS (l:ag) (k i:Nat):ix (l.drop k) i=ix l (k+i):=by
 unfold ix;simp only [List.getD_eq_getElem?_getD,List.getElem?_drop]
theorem bT.cut {k:IntKind} {w:World} {B n:Nat} {A:ax} {l:ag} (h:bT k w B A n l) {j:Nat} (e:j<=n) {A':ax} (hA:j<n->A'=A.map (·.add j)):bT k w B A' (n-j) (l.drop j):=by
 refine⟨by rw[ay,h.1],λd=> ?_⟩;obtain⟨c,rfl,b,a⟩ :=h.2 ω;refine⟨c.add j,hA ω,by rw[bH];exact b,λi hi=> ?_⟩;rw[Hw,a (j+i) ω];show some (Value.int k (ix l (j+i)))=some (Value.int k (ix (List.drop j l) i));rw[lS]
def zz (l b:ag):ag:=if 65536<(l++b).length then(l++b).drop ((l++b).length-32768)else l++b
theorem Ob (l b:ag):(zz l b).length<=65536:=by
 unfold zz;split
 · simp;omega
 omega
def uU (all l:ag):Prop:=∃k,l=all.drop k/\k<=all.length/\(k=0\/32768<=all.length-k)
theorem uU.di:uU [] []:= ⟨0,rfl,σ, .inl rfl⟩
theorem uU.add {all l:ag} (h:uU all l) (b:ag):uU (all++b) (zz l b):=by
 obtain⟨k,rfl,f,d⟩ :=h;have e:all.drop k++b=(all++b).drop k:=by rw[dS f]
 unfold zz;rw[e];have a:((all++b).drop k).length=all.length+b.length-k:=σ;have c:(all++b).length=all.length+b.length:=σ;split
 · rename_i h
   rw[a]at h;rw[a,bj];exact⟨k+(all.length+b.length-k-32768),rfl,ω, .inr ω⟩
 exact⟨k,rfl,ω,ω⟩
theorem uU.len {all l:ag} (h:uU all l):min l.length 32768=min all.length 32768:=by
 obtain⟨k,rfl,b,a⟩ :=h;simp;omega
theorem uU.back {all l:ag} (h:uU all l) {d:Nat} (hd:d<=l.length):l.drop (l.length-d)=all.drop (all.length-d):=by
 obtain⟨k,rfl,b,a⟩ :=h;rw[bj,ay]at*;congr 1;omega
structure bY where
 lit:Int
 len:Int
 bn:Int
def cn (t:bY):Prop:=if t.len=0 then t.bn=0 else t.lit=0/\3<=t.len/\t.len<=258/\1<=t.bn/\t.bn<=32768
instance (t:bY):Decidable (cn t):=by unfold cn;infer_instance
def again (l:ag) (D N:Nat):ag:=(List.range N).map λi=>ix l (l.length-D+i%D)
theorem cG (l:ag) (D N:Nat):(again l D N).length=N:=by simp [again]
theorem Jj (l:ag) (D N:Nat) {i:Nat} (h:i<N):ix (again l D N) i=ix l (l.length-D+i%D):=by simp [ix,again,h]
theorem Lg (l:ag) (D:Nat):again l D 0=[]:=rfl
theorem Le (l:ag) (D N:Nat) (hD:1<=D) (b:D<=l.length):again l D (N+1)=again l D N++[ix (l++again l D N) (l.length+N-D)]:=by
 have a:again l D (N+1)=again l D N++[ix l (l.length-D+N%D)]:=by unfold again;rw[List.range_succ,eQ];rfl
 rw[a];congr 2;by_cases h:N<D
 · rw[dO h,dy,aa ω];congr 1;omega
 rw[dy,a8 ω,Jj _ _ _ ω,show l.length+N-D-l.length=N-D by omega,<-Nat.mod_eq_sub_mod ω]
def step (out:ag) (t:bY):Int×ag:=
 if¬cn t then(1,[])
 else if 16777216<(out.length:Int)+max t.len 1 then(6,[])
 else if t.len=0 then(0,out++[t.lit])
 else if(out.length:Int)<t.bn then(3,[])
 else(0,out++again out t.bn.toNat t.len.toNat)
def expand (out:ag):List bY->Int×ag
 | []=>(0,out)
 | t::l=>if(step out t).1=0 then expand (step out t).2 l else step out t
theorem jR (out:ag) (t:bY) (l:List bY):expand out (t::l)=if(step out t).1=0 then expand (step out t).2 l else step out t:=rfl
theorem Xt {out:ag} {t:bY} (h:(step out t).1=0):(step out t).2.length<=16777216/\out.length<=(step out t).2.length:=by
 unfold step at h⊢;by_cases c:cn t
 · rw[a8 (by simpa using c)]at h⊢;by_cases b:16777216<(out.length:Int)+max t.len 1
   · rw[aa b]at h;simp at h
   rw[a8 b]at h⊢;by_cases a:t.len=0
   · rw[aa a];simp;omega
   rw[a8 a]at h⊢;by_cases h4:(out.length:Int)<t.bn
   · rw[aa h4]at h;simp at h
   rw[a8 h4];simp [cG];omega
 rw[aa (by simpa using c)]at h;simp at h
def dw (A:ax) (c j:Nat):ax:=if c=j then A else A.map (·.add j)
theorem bT.dw {k:IntKind} {w:World} {B n c:Nat} {A:ax} {l:ag} (h:bT k w B A n l) {j:Nat} (b:j<=n) (d:n<=c):bT k w B (dw A c j) (n-j) (l.drop j):=
 h.cut b λa=>by unfold Go.Proofs.YtgiimmkmjpbecaaGreat.dw;rw[a8 ω]
theorem bT.pre {k:IntKind} {w:World} {B n:Nat} {A:ax} {l:ag} (h:bT k w B A n l) {j:Nat} (d:j<=n):bT k w B A j (l.take j):=by
 refine⟨by rw[aD,<-h.1];omega,λf=> ?_⟩;obtain⟨c,e,b,a⟩ :=h.2 ω;refine⟨c,e,b,λi hi=> ?_⟩;rw[a i ω];simp [ix,hi]
section
variable {P:Program} (t e:TypeId) (ht:P.underlying t=some (.slice e)) {i:TypeInfo} (hi:P.info? e=some i) (hs:i.size=1)
include ht hi hs
theorem cK (A:ax) (n c:Nat) {j:Nat} (b:j<=n) (W:World):
  (Instr.slice t (.slice A n c) (some (.int .i64 (j:Int))) none none).run P W= .ok (.slice (dw A c j) (n-j) (c-j)) W:=by
 have a:P.elem t=e:=by simp [Program.elem,ht]
 rw[run_slice_l W t A n c (by rw[a];exact ht) .i64 j ω ω,a];simp [sizeOf,typeInfo,hi,hs,sliced,dw]
theorem dR (A:ax) (n c:Nat) {j:Nat} (b:j<=c) (W:World):
  (Instr.slice t (.slice A n c) none (some (.int .i64 (j:Int))) none).run P W= .ok (.slice A j c) W:=by
 have a:P.elem t=e:=by simp [Program.elem,ht]
 rw[run_slice_h W t A n c (by rw[a];exact ht) .i64 j ω ω,a];simp [sizeOf,typeInfo,hi,hs,sliced];cases A <;> simp [Addr.add]
theorem jE (A:ax) (n c:Nat) {a b:Nat} (f:a<=b) (g:b<=c) (W:World):
  (Instr.slice t (.slice A n c) (some (.int .i64 (a:Int))) (some (.int .i64 (b:Int))) none).run P W= .ok (.slice (dw A c a) (b-a) (c-a)) W:=by
 have d:P.elem t=e:=by simp [Program.elem,ht]
 rw[run_slice_lh W t A n c (by rw[d];exact ht) .i64 .i64 a b ω ω ω,d];simp [sizeOf,typeInfo,hi,hs,sliced,dw]
end
theorem aT.put {k:IntKind} {w:World} {b0 g n c i:Nat} {e:TypeId} {l:ag} (h:aT k w b0 e (some ⟨g,0,none⟩) n c l) (hi:i<n) (v:Int):aT k (w.setCell ⟨g,i,none⟩ (.int k v)) b0 e (some ⟨g,0,none⟩) n c (l.set i v):=by
 refine⟨by rw[fQ];exact h.1, ?_⟩;rcases h.2 with ⟨u,_⟩ | ⟨x,d,a,r,q,p,o,f,m⟩
 · cases u
 injection a with a;injection a with a;subst a;refine .inr ⟨g,d.setIfInBounds i (.int k v),rfl,r, ?_,p,o,by simpa using f,λj t=> ?_⟩
 · simp [World.setCell,Array.getElem?_modify,q]
 rw[fH];have s:=h.1;by_cases b:i=j
 · subst b;rw[aa rfl,aa (by rw[f];omega)];simp [ix,<-s,hi]
 rw[a8 b,m j t];simp [ix,b]
structure Rn where
 c:Int
 v:Int
 e:Int
def ik (k:Int) (n:Nat):List Rn:=
 if h0:n=0 then []
 else if k=0/\11<=n then⟨18,((min n 138:Nat):Int)-11,7⟩ ::ik k (n-min n 138)
 else if k=0/\3<=n then [⟨17,(n:Int)-3,3⟩]
 else if 0<k/\3<=n then⟨16,((min n 6:Nat):Int)-3,2⟩ ::ik k (n-min n 6)
 else⟨k,0,0⟩ ::ik k (n-1)
termination_by n
decreasing_by all_goals omega
theorem tB (k:Int):ik k 0=[]:=by rw[ik,dif_pos rfl]
theorem Eh {n:Nat} (h:11<=n):ik 0 n= ⟨18,((min n 138:Nat):Int)-11,7⟩ ::ik 0 (n-min n 138):=by rw[ik,dif_neg ω,aa ⟨rfl,h⟩]
theorem Bw {n:Nat} (h:3<=n) (h':¬11<=n):ik 0 n=[⟨17,(n:Int)-3,3⟩]:=by rw[ik,dif_neg ω,a8 ω,aa ⟨rfl,h⟩]
theorem Bv {k:Int} {n:Nat} (a:0<k) (h:3<=n):ik k n= ⟨16,((min n 6:Nat):Int)-3,2⟩ ::ik k (n-min n 6):=by rw[ik,dif_neg ω,a8 ω,a8 ω,aa ⟨a,h⟩]
theorem vS {k:Int} {n:Nat} (a:n≠0) (h:n<3\/k<0):ik k n= ⟨k,0,0⟩ ::ik k (n-1):=by rw[ik,dif_neg a,a8 ω,a8 ω,a8 ω]
def runN (k:Int):ag->Nat
 | []=>0
 | x::r=>if x=k then runN k r+1 else 0
theorem Gs (k:Int):∀r,runN k r<=r.length
 | []=>af _
 | x::r=>by
   unfold runN;have:=Gs k r;split <;> simp <;> omega
theorem Pv (k:Int):∀(r:ag) (m:Nat),m<=runN k r->(m<runN k r↔m<r.length/\ix r m=k)
 | [],m,h=>by simp [runN]
 | x::r,m,h=>by
   unfold runN at h⊢;by_cases a:x=k
   · rw[aa a]at h⊢;cases m with
     | zero=>exact⟨λ_=> ⟨σ,by simpa [ix] using a⟩,λ_=>ω⟩
     | succ m=>
       have:=Pv k r m ω;rw[br,show ix (x::r) (m+1)=ix r m from by simp [ix]];constructor
       · intro b;have:=this.1 ω;exact⟨ω,this.2⟩
       intro b;have:=this.2 ⟨ω,b.2⟩;omega
   rw[a8 a]at h⊢;obtain rfl:m=0:=ω;exact⟨λh=>absurd h ω,λh=>absurd (by simpa [ix] using h.2) a⟩
def jM (l:ag):List Rn:=
 match l with
 | []=>[]
 | k::r=>(if 0<k then⟨k,0,0⟩ ::ik k (runN k r)else ik k (runN k r+1))++jM (r.drop (runN k r))
termination_by l.length
decreasing_by simp;omega
theorem tC:jM []=[]:=by rw[jM]
theorem oo (k:Int) (r:ag):jM (k::r)=(if 0<k then⟨k,0,0⟩ ::ik k (runN k r)else ik k (runN k r+1))++jM (r.drop (runN k r)):=by rw[jM]
theorem Zg {l:ag} {i:Nat} (h:i<l.length):l.drop i=ix l i::l.drop (i+1):=by
 rw[bQ h];simp [ix,h]
theorem Xf {l:ag} {i m:Nat} (h:i<l.length) (a:runN (ix l i) (l.drop (i+1))=m):jM (l.drop i)=(if 0<ix l i then⟨ix l i,0,0⟩ ::ik (ix l i) m else ik (ix l i) (m+1))++jM (l.drop (i+(m+1))):=by
 rw[Zg h,oo,a,bj,show i+1+m=i+(m+1) by omega]
theorem vR (k:Int) (n:Nat):(ik k n).length<=n:=by
 induction n using Nat.strongRecOn with
 | _ n ih=>
   rw[ik];by_cases a:n=0
   · rw[dif_pos a];simp
   rw[dif_neg a];split
   · have:=ih (n-min n 138) ω;simp;omega
   split
   · simp;omega
   split
   · have:=ih (n-min n 6) ω;simp;omega
   have:=ih (n-1) ω;simp;omega
theorem Ei (l:ag):(jM l).length<=l.length:=by
 generalize a:l.length=n;induction n using Nat.strongRecOn generalizing l with
 | _ n ih=>
   cases l with
   | nil=>rw[tC];simp
   | cons k r=>
     rw[oo,ae];have b:=ih (r.drop (runN k r)).length (by simp at a⊢;omega) _ rfl;have c:=Gs k r;rw[ay]at b;simp only [List.length_cons]at a;split
     · have:=vR k (runN k r);simp;omega
     have:=vR k (runN k r+1);omega
def yo (r:Rn):Prop:=(0<=r.c/\r.c<=18)/\(0<=r.v/\r.v<128)/\(0<=r.e/\r.e<=7)/\r.v<2 ^ r.e.toNat/\(r.c<=15->r.v=0/\r.e=0)/\(r.c=16->r.e=2)/\(r.c=17->r.e=3)/\(r.c=18->r.e=7)
theorem Gi {k:Int} (b:0<=k/\k<=15) (n:Nat):∀r∈ik k n,yo r:=by
 induction n using Nat.strongRecOn with
 | _ n ih=>
   rw[ik];by_cases c:n=0
   · rw[dif_pos c];intro r a;simp at a
   rw[dif_neg c];split
   · intro r a;rcases aZ.1 a with rfl | a
     · refine⟨?_, ?_, ?_, ?_, ?_, ?_, ?_, ?_⟩ <;> dsimp only <;> first | omega | (show((min n 138:Nat):Int)-11<128;omega)
     exact ih _ ω r a
   split
   · intro r a;rcases aZ.1 a with rfl | a
     · refine⟨?_, ?_, ?_, ?_, ?_, ?_, ?_, ?_⟩ <;> dsimp only <;> first | omega | (show(n:Int)-3<8;omega)
     simp at a
   split
   · intro r a;rcases aZ.1 a with rfl | a
     · refine⟨?_, ?_, ?_, ?_, ?_, ?_, ?_, ?_⟩ <;> dsimp only <;> first | omega | (show((min n 6:Nat):Int)-3<4;omega)
     exact ih _ ω r a
   intro r a;rcases aZ.1 a with rfl | a
   · exact⟨⟨b.1,Int.le_trans b.2 δ⟩,σ,σ,σ,σ,by dsimp only;omega,by dsimp only;omega,by dsimp only;omega⟩
   exact ih _ ω r a
theorem Xg (l:ag) (h:∀i,i<l.length->0<=ix l i/\ix l i<=15):∀r∈jM l,yo r:=by
 generalize d:l.length=n;induction n using Nat.strongRecOn generalizing l with
 | _ n ih=>
   cases l with
   | nil=>rw[tC];intro r c;simp at c
   | cons k r=>
     have b:0<=k/\k<=15:=by have:=h 0 σ;simpa [ix] using this
     rw[oo];intro x a;rcases aQ.1 a with a | a
     · split at a
       · rcases aZ.1 a with rfl | a
         · exact⟨⟨b.1,Int.le_trans b.2 δ⟩,σ,σ,σ,σ,by dsimp only;omega,by dsimp only;omega,by dsimp only;omega⟩
         exact Gi b _ x a
       exact Gi b _ x a
     refine ih (r.drop (runN k r)).length (by simp at d⊢;omega) _ (λi hi=> ?_) rfl x a;rw[lS];have:=h (runN k r+i+1) (by rw[ay]at hi;simp;omega)
     simpa [ix] using this
open Go
structure oP where
 chain:Nat
 nice:Nat
 lazy:Bool
def gR (level:Int):oP:=
 if level<=0 then⟨0,0,false⟩else if level=1 then⟨4,8,false⟩else if level=2 then⟨8,16,false⟩else if level=3 then⟨16,32,false⟩
 else if level=4 then⟨16,16,true⟩else if level=5 then⟨24,32,true⟩else if level=6 then⟨32,128,true⟩else if level=7 then⟨64,128,true⟩
 else if level=8 then⟨128,258,true⟩else⟨256,258,true⟩
theorem Ub (level:Int):(gR level).chain<=256/\(gR level).nice<=258:=by
 unfold gR
 repeat' split
 all_goals exact⟨δ,δ⟩
structure jk where
 D:ag
 P:ag
 base:Nat
 at_:Nat
 head:Int->Option Int
def hs3 (a b c:Int):Int:=(a*65536+b*256+c)*2654435761%4294967296/131072
theorem VI (a b c:Int):0<=hs3 a b c/\hs3 a b c<32768:=by unfold hs3;omega
def mr (D:ag) (p:Nat):Int:=hs3 (ix D p) (ix D (p+1)) (ix D (p+2))
def Px (D:ag) (a b:Nat):Nat->Nat->Nat
 | 0,n=>n
 | f+1,n=>if ix D (a+n)=ix D (b+n)then Px D a b f (n+1)else n
def kG (D:ag) (a b:Nat):Nat:=Px D a b (min 258 (D.length-b)) 0
theorem a3J (D:ag) (a b f n:Nat):n<=Px D a b f n/\Px D a b f n<=n+f:=by
 induction f generalizing n with
 | zero=>exact⟨af _,by simp [Px]⟩
 | succ f c=>
   unfold Px;split
   · have:=c (n+1);omega
   omega
theorem Sc (D:ag) (a b f n:Nat) (h:∀i,i<n->ix D (a+i)=ix D (b+i)):∀i,i<Px D a b f n->ix D (a+i)=ix D (b+i):=by
 induction f generalizing n with
 | zero=>exact h
 | succ f c=>
   unfold Px;split
   · rename_i e
     exact c (n+1) λi hi=>by
      by_cases d:i=n
      · subst d;exact e
      exact h i ω
   exact h
theorem K5 (D:ag) (a b:Nat):kG D a b<=258/\kG D a b<=D.length-b:=by
 have:=(a3J D a b (min 258 (D.length-b)) 0).2;unfold kG;omega
theorem K4 (D:ag) (a b:Nat):∀i,i<kG D a b->ix D (a+i)=ix D (b+i):=Sc D a b _ 0 λi hi=>ω
def nX (D P:ag) (base p nice:Nat):Nat->Int->Nat×Nat->Nat×Nat
 | 0,_,t=>t
 | tries+1,k,t=>
   if(base:Int)<=k/\(p:Int)-32768<=k then
    if 3<=kG D k.toNat p/\t.1<kG D k.toNat p then
     if nice<=kG D k.toNat p then(kG D k.toNat p,p-k.toNat)else nX D P base p nice tries (ix P k.toNat) (kG D k.toNat p,p-k.toNat)
    else nX D P base p nice tries (ix P k.toNat) t
   else t
def dv (e:oP) (st:jk) (p:Nat):Nat×Nat:=
 if e.chain=0\/st.D.length<p+3 then(0,0)
 else match st.head (mr st.D p)with
  | none=>(0,0)
  | some k=>nX st.D st.P st.base p e.nice e.chain k (0,0)
theorem xK {e:oP} {st:jk} {p:Nat} (h:e.chain=0\/st.D.length<p+3):dv e st p=(0,0):=by unfold dv;rw[aa h]
theorem I3 {e:oP} {st:jk} {p:Nat} (h:st.head (mr st.D p)=none):dv e st p=(0,0):=by
 unfold dv;split
 · rfl
 rw[h]
theorem I4 {e:oP} {st:jk} {p:Nat} {k:Int} (b:e.chain≠0) (a:p+3<=st.D.length) (h:st.head (mr st.D p)=some k):dv e st p=nX st.D st.P st.base p e.nice e.chain k (0,0):=by
 unfold dv;rw[a8 ω,h]
def was (st:jk) (h:Int):Int:=(st.head h).getD (-1)
def bV (e:oP) (st:jk) (p:Nat):jk:=
 if e.chain=0\/st.D.length<p+3 then st
 else { st with P:=st.P.set p (was st (mr st.D p)),head:=λx=>if x=mr st.D p then some (p:Int)else st.head x }
def moved (st:jk):jk:={ st with at_:=st.at_+1 }
def dV (e:oP):Nat->jk->jk
 | 0,st=>st
 | n+1,st=>dV e n (moved (bV e st st.at_))
def ri (st:jk):bY:= ⟨ix st.D st.at_,0,0⟩
def fT (e:oP) (st:jk):bY×jk:=
 if(dv e st st.at_).1=0 then(ri st,dV e 1 st)
 else if e.lazy=true/\(dv e st st.at_).1<e.nice/\st.at_+1<st.D.length then
  if(dv e st st.at_).1<(dv e (bV e st st.at_) (st.at_+1)).1 then(ri st,moved (bV e st st.at_))
  else(⟨0,(dv e st st.at_).1,(dv e st st.at_).2⟩,dV e ((dv e st st.at_).1-1) (moved (bV e st st.at_)))
 else(⟨0,(dv e st st.at_).1,(dv e st st.at_).2⟩,dV e (dv e st st.at_).1 st)
inductive yN (e:oP) (left:Nat):jk->List bY->jk->Prop
 | nil (st:jk):yN e left st [] st
 | snoc {st st1:jk} {l:List bY}:yN e left st l st1->left<st1.D.length-st1.at_->yN e left st (l++[(fT e st1).1]) (fT e st1).2
def jv (st:jk) (b:ag):jk:=
 { D:=st.D++b,P:=st.P++List.replicate b.length 0,at_:=st.at_,head:=st.head,
   base:=if 131072<(st.D++b).length-st.base/\32768<st.at_-st.base then st.at_-32768 else st.base }
def Jy:jk:= ⟨[],[],0,0,λ_=>none⟩
structure jk.Ok (st:jk) (b:Nat):Prop where
 len:st.P.length=st.D.length
 lo:st.base<=st.at_
 hi:st.at_<=st.D.length
 bl:b<=st.D.length
 prev:∀q, -1<=ix st.P q/\ix st.P q<=q
 hd:∀h k,st.head h=some k->0<=k/\k<(b:Int)
theorem W8 (l:ag) (p q:Nat) (v:Int) (hp:p<l.length):ix (l.set p v) q=if q=p then v else ix l q:=by
 unfold ix;simp only [List.getD_eq_getElem?_getD,List.getElem?_set];by_cases h:q=p
 · subst h;rw[aa rfl,aa rfl,aa hp];rfl
 rw[a8 h,a8 (λe=>h e.symm)]
theorem a3q (l:ag) {q:Nat} (h:l.length<=q):ix l q=0:=by
 unfold ix;rw[au,bq h];rfl
theorem W7 (n q:Nat):ix (List.replicate n 0) q=0:=by
 by_cases h:q<n
 · simp [ix,h]
 exact a3q _ ξ
theorem Ok.new:jk.Ok Jy 0:= ⟨rfl,af _,af _,af _,λq=>by simp [Jy,ix],λh k a=>by simp [Jy]at a⟩
theorem jk.Ok.write {st:jk} {b:Nat} (h:st.Ok b) (x:ag):(jv st x).Ok b:=by
 refine⟨?_, ?_, ?_, ?_,λq=> ?_,h.hd⟩
 · simp [jv,h.len]
 · have:=h.lo;unfold jv;dsimp only;split <;> omega
 · have:=h.hi;unfold jv;simp;omega
 · have:=h.bl;unfold jv;simp;omega
 unfold jv;dsimp only;rw[dy];split
 · exact h.prev q
 rw[W7];omega
theorem a3S {st:jk} {b:Nat} (h:st.Ok b) (x:Int): -1<=was st x/\was st x<(b:Int):=by
 unfold was;cases e:st.head x with
 | none=>simp;omega
 | some k=>have:=h.hd x k e;simp;omega
theorem jk.Ok.enter {e:oP} {st:jk} {p:Nat} (h:st.Ok p) (hp:p<st.D.length):(bV e st p).Ok (p+1):=by
 unfold bV;split
 · exact⟨h.len,h.lo,h.hi,hp,h.prev,λx k a=>by have:=h.hd x k a;omega⟩
 rename_i b
 refine⟨by simp [h.len],h.lo,h.hi,hp,λq=> ?_,λx k a=> ?_⟩
 · dsimp only;rw[W8 _ _ _ _ (by rw[h.len];exact hp)];split
   · have:=a3S h (mr st.D p);omega
   exact h.prev q
 dsimp only at a;split at a
 · injection a with a;omega
 have:=h.hd x k a;omega
theorem yU (e:oP) (st:jk) (p:Nat):(bV e st p).D=st.D/\(bV e st p).at_=st.at_/\(bV e st p).base=st.base:=by
 unfold bV;split <;> exact⟨rfl,rfl,rfl⟩
theorem jk.Ok.moved {st:jk} (h:st.Ok (st.at_+1)):(moved st).Ok (Go.Proofs.YtgiimmkmjpbecaaGreat.moved st).at_:=
 ⟨h.len,Nat.le_succ_of_le h.lo,h.bl,h.bl,h.prev,h.hd⟩
theorem qK {e:oP} {st:jk} {n:Nat} (h:st.Ok st.at_) (r:st.at_+n<=st.D.length):(dV e n st).Ok (st.at_+n)/\(dV e n st).D=st.D/\(dV e n st).at_=st.at_+n/\(dV e n st).base=st.base:=by
 induction n generalizing st with
 | zero=>exact⟨h,rfl,rfl,rfl⟩
 | succ n j=>
   have m:=h.enter (e:=e) (p:=st.at_) ω;obtain⟨q,f,o⟩ :=yU e st st.at_;have l:(bV e st st.at_).Ok ((bV e st st.at_).at_+1):=by rw[f];exact m
   have k:=l.moved;have d:(moved (bV e st st.at_)).at_=st.at_+1:=by show(bV e st st.at_).at_+1=_;rw[f]
   have c:(moved (bV e st st.at_)).D=st.D:=q;obtain⟨b,i,a,g⟩ :=j (st:=moved (bV e st st.at_)) k (by rw[d,c];omega);rw[d]at b a;refine⟨by rw[show st.at_+(n+1)=st.at_+1+n by omega];exact b,by rw[show dV e (n+1) st=dV e n (moved (bV e st st.at_)) from rfl,i,c],by rw[show dV e (n+1) st=dV e n (moved (bV e st st.at_)) from rfl,a];omega,by rw[show dV e (n+1) st=dV e n (moved (bV e st st.at_)) from rfl,g];exact o⟩
def Good (D:ag) (p:Nat) (t:Nat×Nat):Prop:=t.1=0/\t.2=0\/(3<=t.1/\t.1<=258/\p+t.1<=D.length/\1<=t.2/\t.2<=32768/\t.2<=p/\∀i,i<t.1->ix D (p-t.2+i)=ix D (p+i))
theorem Lj {D P:ag} {base p nice:Nat} (hp:p<=D.length) (d:∀q, -1<=ix P q/\ix P q<=q) (n:Nat) (k:Int) (t:Nat×Nat) (f:k<p) (ht:Good D p t):Good D p (nX D P base p nice n k t):=by
 induction n generalizing k t with
 | zero=>exact ht
 | succ n a=>
   unfold nX;split
   · rename_i g
     obtain⟨K,rfl⟩ :=aF (show 0<=k by omega);have e:=d K
     have b:3<=kG D K p/\t.1<kG D K p->Good D p (kG D K p,p-K):=λh=>by
      have c:=K5 D K p;refine .inr ⟨h.1,c.1,by simp only;omega,by simp only;omega,by simp only;omega,by simp only;omega,λi hi=> ?_⟩;have:=K4 D K p i hi;rw[show p-(p-K)=K by omega];exact this
     simp only [Int.toNat_natCast];split
     · rename_i hs
       split
       · exact b hs
       exact a _ _ ω (b hs)
     exact a _ _ ω ht
   exact ht
theorem wP {e:oP} {st:jk} {p:Nat} (h:st.Ok p):Good st.D p (dv e st p):=by
 unfold dv;split
 · exact .inl ⟨rfl,rfl⟩
 split
 · exact .inl ⟨rfl,rfl⟩
 rename_i k a
 exact Lj h.bl h.prev _ _ _ (h.hd _ _ a).2 (.inl ⟨rfl,rfl⟩)
theorem Q5 {e:oP} {st:jk} {p:Nat} (h:(dv e st p).1≠0):e.chain≠0/\p+3<=st.D.length:=by
 unfold dv at h;split at h
 · simp at h
 omega
theorem oO {e:oP} {st:jk} (h:st.Ok st.at_) (k:st.at_<st.D.length):∃N,1<=N/\N<=258/\st.at_+N<=st.D.length/\(fT e st).2.Ok (st.at_+N)/\(fT e st).2.D=st.D/\(fT e st).2.at_=st.at_+N/\(fT e st).2.base=st.base/\
  (((fT e st).1=ri st/\N=1)\/∃bn:Nat,(fT e st).1= ⟨0,N,bn⟩/\Good st.D st.at_ (N,bn)/\e.chain≠0/\3<=N):=by
 have s:=wP (e:=e) h;unfold fT;split
 · obtain⟨c,g,b,f⟩ :=qK (e:=e) (n:=1) h ω;exact⟨1,af _,ω,ω,c,g,b,f, .inl ⟨rfl,rfl⟩⟩
 rename_i m
 have a:=Q5 m;obtain⟨B,v⟩ :=ν (dv e st st.at_);rw[v]at s m⊢;obtain⟨N,bn⟩ :=B;rcases s with ⟨hz,_⟩ | ⟨i,q,d,o⟩
 · exact absurd hz m
 dsimp only at i q d o⊢;have x:=h.enter (e:=e) (p:=st.at_) k;obtain⟨y,u,t⟩ :=yU e st st.at_;have w:(bV e st st.at_).Ok ((bV e st st.at_).at_+1):=by rw[u];exact x
 have l:=w.moved;have j:(moved (bV e st st.at_)).at_=st.at_+1:=by show(bV e st st.at_).at_+1=_;rw[u]
 have r:(moved (bV e st st.at_)).D=st.D:=y;split
 · split
   · refine⟨1,af _,ω,ω, ?_,r,j,t, .inl ⟨rfl,rfl⟩⟩;rw[j]at l;exact l
   obtain⟨c,g,b,f⟩ :=qK (e:=e) (n:=N-1) l (by rw[j,r];omega);rw[j]at c b;rw[show st.at_+1+(N-1)=st.at_+N by omega]at c b;exact⟨N,ω,ω,d,c,by rw[g,r],b,by rw[f];exact t, .inr ⟨bn,rfl, .inr ⟨i,q,d,o⟩,a.1,i⟩⟩
 obtain⟨c,g,b,f⟩ :=qK (e:=e) (n:=N) h d;exact⟨N,ω,ω,d,c,g,b,f, .inr ⟨bn,rfl, .inr ⟨i,q,d,o⟩,a.1,i⟩⟩
theorem Gu {e:oP} {left:Nat} {st st':jk} {l:List bY} (h:yN e left st l st') (k:st.Ok st.at_):st'.Ok st'.at_/\st'.D=st.D/\st.at_+l.length<=st'.at_/\st'.base=st.base:=by
 induction h with
 | nil=>exact⟨k,rfl,af _,rfl⟩
 | snoc p o f=>
   obtain⟨j,i,n,g⟩ :=f;obtain⟨N,m, -, -,d,c,a,b, -⟩ :=oO (e:=e) j ω;refine⟨by rw[a];exact d,by rw[c,i],by rw[a];simp;omega,by rw[b,g]⟩
section
variable {w w' w0:World} {b0 g:Nat} {c c0:Nat->Nat}
def DE (b0:Nat) (w0:World) (c0:Nat->Nat) (w:World) (c:Nat->Nat):Prop:=Below b0 w0 w/\bb w0 w (λk=>c0 k≠0)/\∀k,k<w0.heap.size->c k=c0 k
open Classical in
noncomputable def cT (c:Nat->Nat) (n:Nat) (F:Nat->Prop) (i:Nat):Nat->Nat:=λk=>if k<n then c k else if F k then i else 0
theorem bZ {c:Nat->Nat} {n:Nat} {F:Nat->Prop} {i k:Nat} (h:k<n):cT c n F i k=c k:=by unfold cT;rw[aa h]
theorem fO {c:Nat->Nat} {n:Nat} {F:Nat->Prop} {i k:Nat} (h:n<=k) (hF:F k):cT c n F i k=i:=by unfold cT;rw[a8 ω,aa hF]
theorem gq {c:Nat->Nat} {n:Nat} {F:Nat->Prop} {i k:Nat} (h:cT c n F i k≠0):(k<n/\c k≠0)\/(n<=k/\F k):=by
 unfold cT at h;split at h
 · exact .inl ⟨by assumption,h⟩
 split at h
 · exact .inr ⟨ω,by assumption⟩
 exact absurd rfl h
theorem DE.step {c':Nat->Nat} (h:DE b0 w0 c0 w c) (g:b0<=w.heap.size) (b:∀k,c k≠0->b0<=k) (e:bb w w' (λk=>c k≠0)) (f:∀k,k<w.heap.size->c' k=c k):DE b0 w0 c0 w' c':=
 ⟨h.1.trans (e.below b g),h.2.1.trans e (λk a=>by
   rcases aU k w0.heap.size with d | d
   · exact .inl (by rw[<-h.2.2 k d];exact a)
   exact .inr d),λk a=>(f k (aB a h.2.1.size)).trans (h.2.2 k a)⟩
end
def Ext (b0:Nat) (w w':World) (E E':Nat->Prop):Prop:=Below b0 w w'/\bb w w' E/\∀k,E' k->E k\/w.heap.size<=k
section
variable {w w' w'':World} {b0:Nat} {E E' E'':Nat->Prop}
theorem Ext.refl (b0:Nat) (w:World) (E:Nat->Prop):Ext b0 w w E E:= ⟨aw _ _,bb.refl _ _,λk h=> .inl h⟩
theorem Ext.trans (h:Ext b0 w w' E E') (h':Ext b0 w' w'' E' E''):Ext b0 w w'' E E'':=
 ⟨h.1.trans h'.1,h.2.1.trans h'.2.1 h.2.2,λk b=>by
   rcases h'.2.2 k b with a | a
   · exact h.2.2 k a
   exact .inr (aq h.1.size a)⟩
theorem Ext.of (a:bb w w' E) (hE:∀k,E k->b0<=k) (c:b0<=w.heap.size) (b:∀k,E' k->E k\/w.heap.size<=k):Ext b0 w w' E E':= ⟨a.below hE c,a,b⟩
end
theorem Ext.dis {b0:Nat} {w w':World} {E E' X:Nat->Prop} (h:Ext b0 w w' E E') (c:∀k,X k->k<w.heap.size) (hd:∀k,E k->¬X k):∀k,E' k->¬X k:=λk d a=>by
 rcases h.2.2 k d with b | b
 · exact hd k b a
 have:=c k a;omega
structure ub where
 A:ax
 n:Nat
 c:Nat
 l:ag
def jP:ub:= ⟨none,0,0,[]⟩
theorem Ih (x:Int) (a b:ag) (k:Nat):pD x (a++b) (a.length+k)=pD (pD x a a.length) b k:=by
 have d:∀m,m<=a.length->pD x (a++b) m=pD x a m:=by
  intro m;induction m with
  | zero=>intro _;rfl
  | succ m c=>intro e;simp only [pD];rw[c ω,dy,aa ω]
 induction k with
 | zero=>rw[iw,d _ (af _)];rfl
 | succ k c=>
   rw[<-dD];simp only [pD];rw[c,dy,a8 ω,show a.length+k-a.length=k by omega]
theorem zy (x:Int) (a b:ag) (k:Nat):uW x (a++b) (a.length+k)=uW (uW x a a.length) b k:=by
 have d:∀m,m<=a.length->uW x (a++b) m=uW x a m:=by
  intro m;induction m with
  | zero=>intro _;rfl
  | succ m c=>intro e;simp only [uW];rw[c ω,dy,aa ω]
 induction k with
 | zero=>rw[iw,d _ (af _)];rfl
 | succ k c=>
   rw[<-dD];simp only [uW];rw[c,dy,a8 ω,show a.length+k-a.length=k by omega]
theorem YV (x:Int) (a b:ag) (m:Nat):m<=a.length->uW x (a++b) m=uW x a m:=by
 induction m with
 | zero=>intro _;rfl
 | succ m c=>intro d;simp only [uW];rw[c ω,dy,aa ω]
theorem Ld (x y:Int) (a b:ag) (k:Nat):Ce x y (a++b) (a.length+k)=Ce (uW x a a.length) (Ce x y a a.length) b k:=by
 have e:∀m,m<=a.length->Ce x y (a++b) m=Ce x y a m:=by
  intro m;induction m with
  | zero=>intro _;rfl
  | succ m c=>intro d;simp only [Ce];rw[c ω,YV x a b (m+1) d]
 induction k with
 | zero=>rw[iw,e _ (af _)];rfl
 | succ k c=>
   rw[<-dD];simp only [Ce];rw[c,dD,zy]
end Go.Proofs.YtgiimmkmjpbecaaGreat
