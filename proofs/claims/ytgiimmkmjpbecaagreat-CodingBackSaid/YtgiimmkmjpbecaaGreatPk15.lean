/-
  part
-/
import Derived.Test.YtgiimmkmjpbecaaGreatPk10
import Derived.Test.YtgiimmkmjpbecaaGreatPk14
set_option linter.unusedVariables false
set_option maxRecDepth 100000
set_option maxHeartbeats 4000000
namespace Go.Proofs.YtgiimmkmjpbecaaGreat
open Go.RowKit
theorem Ee {R:Int->Int->Prop} (c:∀a b,R a b->R b a->a=b):∀{l l':ag},l.Perm l'->l.Pairwise R->l'.Pairwise R->l=l'
 | [],l',hp,_,_=>(List.Perm.nil_eq hp)
 | a::l,[],hp,_,_=>absurd hp.length_eq σ
 | a::l,b::l',hp,h,h'=>by
   obtain⟨j,i⟩ :=aV.1 h;obtain⟨g,h4⟩ :=aV.1 h'
   have e:a=b:=by
    rcases aZ.1 (hp.mem_iff.1 aI)with e | f
    · exact e
    rcases aZ.1 (hp.mem_iff.2 (aI (a:=b)))with e | d
    · exact e.symm
    exact c a b (j b d) (g a f)
   subst e;rw[Ee c (List.perm_cons a |>.1 hp) i h4]
theorem Pr {l l':ag} (b:l.length=l'.length) (h:∀i,i<l.length->ix l i=ix l' i):l=l':=by
 refine fx b λi a c=> ?_;have:=h i a
 simpa [ix,a,c] using this
theorem mh.uniq {f L p:ag} {m:Nat} (h:mh f m L) (h':mh f m p):L=p:=by
 obtain⟨l,h⟩ :=h;obtain⟨k,h'⟩ :=h';refine Pr (l.trans k.symm) λi hi=> ?_;rw[l]at hi;rcases h with ⟨d,g⟩ | ⟨s,d,g⟩ | ⟨S,d,g,n,h4⟩ <;> rcases h' with ⟨c,j⟩ | ⟨t,c,j⟩ | ⟨T,c,j,o,q⟩
 · rw[g i hi,j i hi]
 · rw[d]at c;simp at c
 · rw[d]at c;have:=c.length_eq;simp at this;rw[this]at o;simp at o
 · rw[d]at c;simp at c
 · rw[d]at c;have e:s=t:=by simpa using c
   subst e;rw[g i hi,j i hi]
 · rw[d]at c;have:=c.length_eq;simp at this;omega
 · rw[c]at d;have:=d.length_eq;simp at this;rw[this]at n;simp at n
 · rw[c]at d;have:=d.length_eq;simp at this;omega
 have e:S=T:=Ee (R:=λs t=>qx f s<qx f t\/(qx f s=qx f t/\s<=t)) (λa b h h'=>ω) (d.trans c.symm) g j;subst e;rw[h4 i hi,q i hi]
def Rp (f:Int->Int) (s:Int):ag->ag
 | []=>[s]
 | t::r=>if f s<=f t then s::t::r else t::Rp f s r
def Xo (f:Int->Int):ag->ag
 | []=>[]
 | s::r=>Rp f s (Xo f r)
theorem xp (f:Int->Int) (s:Int):∀r,(Rp f s r).Perm (s::r)
 | []=>cO _
 | t::r=>by
   unfold Rp;split
   · exact cO _
   exact((xp f s r).cons t).trans (List.Perm.swap s t r)
theorem tD (f:Int->Int):∀r,(Xo f r).Perm r
 | []=>cO _
 | s::r=>(xp f s _).trans ((tD f r).cons s)
theorem DZ {f:ag} {s:Int}:∀{r:ag},zw f r->(∀t∈r,s<=t)->zw f (Rp (qx f) s r)
 | [],_,_=>i9 _ _
 | t::r,h,hs=>by
   obtain⟨c,e⟩ :=aV.1 h;unfold Rp;split
   · rename_i b
     refine aV.2 ⟨λu a=> ?_,h⟩;have d:=hs u a;rcases aZ.1 a with rfl | a
     · omega
     have:=c u a;omega
   rename_i b
   refine aV.2 ⟨λu a=> ?_,DZ e λt ht=>hs t (aJ _ ht)⟩;rcases aZ.1 ((xp _ _ _).mem_iff.1 a)with rfl | a
   · left;omega
   exact c u a
theorem Ek {f:ag}:∀{r:ag},r.Pairwise (· < ·)->zw f (Xo (qx f) r)
 | [],_=>List.Pairwise.nil
 | s::r,h=>by
   obtain⟨b,a⟩ :=aV.1 h;exact DZ (Ek a) λt ht=>Int.le_of_lt (b t ((tD _ _).mem_iff.1 ht))
def om (f:ag) (m:Nat):ag:=
 match dZ f f.length with
 | []=>List.replicate f.length 0
 | [s]=>(List.range f.length).map λ(i:Nat)=>if(i:Int)=s then 1 else 0
 | _=>(List.range f.length).map λ(i:Nat)=>((tN (qx f) (Xo (qx f) (dZ f f.length)) m (i:Int):Nat):Int)
theorem MM {n i:Nat} (g:Nat->Int) (hi:i<n):ix ((List.range n).map g) i=g i:=by simp [ix,hi]
theorem mV (f:ag) (m:Nat):mh f m (om f m):=by
 unfold om;split
 · rename_i h
   exact⟨aS, .inl ⟨h,λi hi=>by simp [ix,hi]⟩⟩
 · rename_i s h
   exact⟨σ, .inr (.inl ⟨s,h,λi hi=>MM _ hi⟩)⟩
 rename_i b a
 refine⟨σ, .inr (.inr ⟨Xo (qx f) (dZ f f.length),tD _ _,Ek (Ge _), ?_,λi hi=>MM _ hi⟩)⟩;rw[(tD _ _).length_eq];cases hp:dZ f f.length with
 | nil=>exact absurd hp b
 | cons s l=>cases l with
   | nil=>exact absurd hp (a s)
   | cons t l=>simp
theorem mh.eq {f L:ag} {m:Nat} (h:mh f m L):L=om f m:=h.uniq (mV f m)
theorem Et {l:ag} {n:Nat}:∀k:Nat,(∀i,n<=i->i<n+k->ix l i=0)->sumTo l (n+k)=sumTo l n
 | 0,_=>rfl
 | k+1,h=>by
   rw[<-dD,sumTo,Et k λi a b=>h i a ω,h (n+k) ω ω,mX ω];rfl
theorem kF {l:ag} {n i:Nat} (h:i<n):ix (l.take n) i=ix l i:=by
 unfold ix;simp only [List.getD_eq_getElem?_getD,List.getElem?_take];rw[aa h]
theorem Kh {l:ag} {n:Nat}:∀k:Nat,k<=n->sumTo (l.take n) k=sumTo l k
 | 0,_=>rfl
 | k+1,h=>by rw[sumTo,sumTo,Kh k ω,kF ω]
theorem Ef {l f:ag} {n:Nat} (h:∀i,i<n->(0<ix l i↔0<ix f i)):∀k,k<=n->dg l k=(dZ f k).length
 | 0,_=>rfl
 | k+1,hk=>by
   rw[dg,Ef h k ω,dZ,ae];by_cases e:0<ix f k
   · rw[aa ((h k ω).2 e),aa e];rfl
   rw[a8 λa=>e ((h k ω).1 a),a8 e];rfl
theorem Bp {l:ag} {n:Nat}:∀k:Nat,k<=n->dg (l.take n) k=dg l k
 | 0,_=>rfl
 | k+1,h=>by rw[dg,dg,Bp k ω,kF ω]
theorem uE {l:ag} {a:Nat}:∀b,a<=b->dg l a<=dg l b
 | 0,h=>by rw[Nat.le_zero.1 h];exact af _
 | b+1,h=>by
   by_cases e:a=b+1
   · rw[e];exact af _
   rw[dg];have:=uE (l:=l) b (by omega:a<=b);omega
theorem Pl {l:ag} {m:Nat} (o:1<=m):∀k:Nat,(∀i,i<k->0<=ix l i/\ix l i<=15)->(dg l k=0->sumTo l k=0)/\(dg l k=1->sumTo l k=16384->∀i,i<k->ix l i<=1)
 | 0,_=> ⟨λ_=>rfl,λh=>by simp [dg]at h⟩
 | k+1,h=>by
   obtain⟨f,r⟩ :=Pl o k λi hi=>h i ω;have d:=h k ω;constructor
   · intro a;rw[dg]at a;rw[sumTo,f ω,mX];split at a <;> omega
   intro a b i hi;rw[dg]at a;rw[sumTo]at b;by_cases e:0<ix l k
   rotate_left
   · rw[a8 e]at a;by_cases c:i=k
     · rw[c];omega
     rw[mX ω]at b;exact r ω ω i ω
   rw[aa e]at a;have q:=f ω;obtain⟨v,hv⟩ :=aF d.1;rw[hv]at b e d;rw[q,pS ω ω]at b
   have n:v=1:=by
    rcases aU 1 v with h5 | h5
    · exfalso
      have:=Bn (v:=1) ω;have h6:qJ v<=qJ 2:=by unfold qJ;exact bw ω ω
      have h7:qJ 2=8192:=rfl;omega
    omega
   by_cases c:i=k
   · rw[c,hv,n];exact ei _
   have p:∀j,j<=k->dg l j=0->∀i,i<j->ix l i<=0:=λj=>by
    induction j with
    | zero=>intro _ _ i hi;omega
    | succ j g=>
      intro t hp i hi;rw[dg]at hp;by_cases s:i=j
      · subst s;split at hp <;> omega
      exact g ω ω i ω
   have:=p k (af _) ω i ω;omega
theorem uv {f:ag} {m n:Nat} (e:oC f (m:Int)=0) (r:n<=f.length) (hz:∀i,n<=i->i<f.length->ix (om f m) i=0):bg ((om f m).take n) (m:Int)=0:=by
 obtain⟨m1,m2,m3,m4,m5⟩ :=G1 e;obtain⟨o,c,k,j⟩ :=(mV f m).snd e;have b:((om f m).take n).length=n:=by rw[aD,o];omega
 have p:sumTo ((om f m).take n) n=sumTo (om f m) f.length:=by
  rw[Kh n (af _)];have:=Et (l:=om f m) (n:=n) (f.length-n) λi d g=>hz i d ω;rw[show n+(f.length-n)=f.length by omega]at this;exact this.symm
 have s:∀i,i<n->0<=ix ((om f m).take n) i/\ix ((om f m).take n) i<=m:=λi hi=>by
  rw[kF hi];exact(c i ω).2
 unfold bg;rw[b,a8 ω,FR s,a8 δ,p];by_cases g:2<=(dZ f f.length).length
 · rw[j g,a8 ω]
 have w:=k ω
 have t:kL ((om f m).take n) n=true:=by
  have v:dg (om f m) f.length=(dZ f f.length).length:=Ef (λi hi=>(c i hi).1) _ (af _);have u:dg ((om f m).take n) n<=dg (om f m) f.length:=by rw[Bp n (af _)];exact uE _ r
  have q:=Pl (l:=om f m) (m:=1) (af _) f.length λi hi=>by have:=(c i hi).2;omega
  unfold kL tX;rw[Bool.and_eq_true];refine⟨aX λi hi=> ?_,aX ω⟩;rw[kF hi];by_cases d:dg (om f m) f.length=1
  · exact q.2 d ω i ω
  by_cases h5:0<ix (om f m) i
  · exfalso
    have h6:0<dg (om f m) (i+1):=by rw[dg,aa h5];omega
    have h7:=uE (l:=om f m) (a:=i+1) f.length ω;omega
  omega
 rw[t,a8];rintro(h | ⟨-,h⟩)
 · omega
 exact absurd h δ
def kZ (l:ag) (few:Nat):Nat->Nat
 | 0=>0
 | n+1=>if few<n+1/\ix l n=0 then kZ l few n else n+1
theorem wu (l:ag) (few:Nat):∀n,kZ l few n<=n
 | 0=>af _
 | n+1=>by
   unfold kZ;have:=wu l few n;split <;> omega
theorem Ez {l:ag} {few n:Nat} (h:n<=few):kZ l few n=n:=by
 cases n with
 | zero=>rfl
 | succ n=>exact a8 ω
theorem wm (l:ag) (few:Nat):∀n,few<=n->few<=kZ l few n
 | 0,h=>h
 | n+1,h=>by
   by_cases e:few=n+1
   · rw[Ez ω];exact h
   unfold kZ;have:=wm l few n ω;split <;> omega
theorem kQ (l:ag) (few:Nat):∀n i,kZ l few n<=i->i<n->ix l i=0
 | 0,i,_,h=>ω
 | n+1,i,h1,h2=>by
   unfold kZ at h1;split at h1
   · rename_i h
     by_cases e:i=n
     · rw[e];exact h.2
     exact kQ l few n i h1 ω
   omega
def xt (t:List bY):ag:=om (jY t).1 15
def qp (t:List bY):ag:=om (jY t).2 15
def fP (t:List bY):Nat:=kZ (xt t) 257 286
def fX (t:List bY):Nat:=kZ (qp t) 1 30
def eU (t:List bY):ag:=(xt t).take (fP t)
def dm (t:List bY):ag:=if fX t=1/\ix (qp t) 0=0 then [1] else(qp t).take (fX t)
def cY (t:List bY):List Rn:=jM (eU t++dm t)
def xX (a:List Rn):ag:=a.foldl (λl r=>ue l r.c.toNat) (List.replicate 19 0)
def cU (t:List bY):ag:=om (xX (cY t)) 7
def jI:ag:=[16,17,18,0,8,7,9,6,10,5,11,4,12,3,13,2,14,1,15]
def oZ (t:List bY):Nat:=kZ (jI.map λk=>ix (cU t) k.toNat) 4 19
theorem Wp {f:ag} {m:Nat} (c:f.length<=288) (b:1<=m/\m<=15) (a:∀i,i<f.length->0<=ix f i/\ix f i<=1048576) (d:f.length<=2 ^ m):oC f (m:Int)=0:=by
 unfold oC;rw[a8 ω,Og a,a8 δ,a8];rw[aY];have:=zj f f.length;omega
theorem IC {t:List bY} (ht:t.length<1048576):oC (jY t).1 15=0/\oC (jY t).2 15=0:=by
 obtain⟨c,b⟩ :=mq t;have a:=DG t;constructor
 · exact Wp (m:=15) ω ω (λi _=>by have:=a i;omega) (by rw[c];decide)
 exact Wp (m:=15) ω ω (λi _=>by have:=a i;omega) (by rw[b];decide)
theorem Jw (t:List bY):(xt t).length=286:=by rw[xt,(mV _ _).1,(mq t).1]
theorem zQ (t:List bY):(qp t).length=30:=by rw[qp,(mV _ _).1,(mq t).2]
theorem kI (t:List bY):257<=fP t/\fP t<=286:= ⟨wm _ _ _ ω,wu _ _ _⟩
theorem lK (t:List bY):1<=fX t/\fX t<=30:= ⟨wm _ _ _ ω,wu _ _ _⟩
theorem nR (t:List bY):(eU t).length=fP t:=by rw[eU,aD,Jw];have:=kI t;omega
theorem qL (t:List bY):(dm t).length=fX t:=by
 unfold dm;split
 · rename_i h;rw[h.1];rfl
 rw[aD,zQ];have:=lK t;omega
theorem kX {t:List bY} (ht:t.length<1048576):bg (eU t) 15=0:=
 uv (m:=15) (IC ht).1 (by rw[(mq t).1];exact(kI t).2) λi b a=>kQ _ 257 286 i b (by rw[(mq t).1]at a;exact a)
theorem ku {t:List bY} (ht:t.length<1048576):bg (dm t) 15=0:=by
 unfold dm;split
 · decide+kernel
 exact uv (m:=15) (IC ht).2 (by rw[(mq t).2];exact(lK t).2) λi b a=>kQ _ 1 30 i b (by rw[(mq t).2]at a;exact a)
theorem rP {l:ag} {m:Int} (h:bg l m=0):∀i,i<l.length->0<=ix l i/\ix l i<=m:=by
 unfold bg at h;split at h
 · simp at h
 split at h
 · simp at h
 rename_i c b
 have a:yI l m l.length=true:=by simpa using b
 simpa [yI] using a
theorem F6 {t:List bY} (ht:t.length<1048576):∀i,i<(eU t++dm t).length->0<=ix (eU t++dm t) i/\ix (eU t++dm t) i<=15:=λi hi=>by
 rw[dy];rw[ae]at hi;split
 · exact rP (kX ht) i (by assumption)
 exact rP (ku ht) _ ω
theorem kY {t:List bY} (ht:t.length<1048576):∀r∈cY t,yo r:=Xg _ (F6 ht)
theorem mF (t:List bY):(cY t).length<=316:=by
 have:=Ei (eU t++dm t);rw[ae,nR,qL]at this;have:=kI t;have:=lK t;unfold cY;omega
theorem vx (a:List Rn) (r:Rn):xX (a++[r])=ue (xX a) r.c.toNat:=by simp [xX]
theorem qz (a:List Rn):(xX a).length=19:=by
 refine kg (β:=Nat) (motive:=λa=>(xX a).length=19) ?_ ?_ a
 · exact aS
 intro a r h;rw[vx,ve];exact h
theorem Mx (a:List Rn):∀i,0<=ix (xX a) i/\ix (xX a) i<=a.length:=by
 refine kg (β:=Nat) (motive:=λa=>∀i,0<=ix (xX a) i/\ix (xX a) i<=a.length) ?_ ?_ a
 · intro i
   have:ix (xX []) i=0:=by
    unfold ix xX;rw[List.foldl_nil,au,dC];split <;> rfl
   rw[this];simp
 intro a r h i;rw[vx,iN,ae,cJ];have:=h i;split <;> omega
theorem Va (t:List bY):oC (xX (cY t)) 7=0:=
 Wp (m:=7) (by rw[qz];omega) ω (λi _=>by have:=Mx (cY t) i;have:=mF t;omega) (by rw[qz];decide)
theorem mE (t:List bY):(cU t).length=19:=by rw[cU,(mV _ _).1,qz]
theorem kv (t:List bY):bg (cU t) 7=0:=by
 have h:=uv (m:=7) (n:=19) (Va t) (by rw[qz];omega) λi b a=>by rw[qz]at a;omega
 rw[aA (by have:=mE t;unfold cU at this;omega)]at h;exact h
theorem uD (t:List bY):4<=oZ t/\oZ t<=19:= ⟨wm _ _ _ ω,wu _ _ _⟩
theorem MZ {l:ag} {m:Int} (c:bg l m=0) {s:Nat} (h:1<=ix l s) (z:ag):aK l (cN l s++z)=((s:Int),(ix l s).toNat,0)/\(cN l s++z).drop (ix l s).toNat=z:=by
 obtain⟨c1,c2,d⟩ :=a1Y c;have b:=GC h;have e:=c2 s b;have a:=fZ l s;refine⟨Kl (N:=(ix l s).toNat) _ ω ω ω b d ?_ ?_, ?_⟩
 · rw[<-a];exact gB
 · rw[ae,a];omega
 rw[<-a];exact gy
def l7 (a:ag) (r:Rn):ag:=
 if r.c<16 then a++[r.c] else a++List.replicate (IS.rB r.c+r.v.toNat) (if r.c=16 then ix a (a.length-1)else 0)
def okR:ag->List Rn->Prop
 | _,[]=>True
 | acc,r::rs=>yo r/\(r.c=16->0<acc.length)/\okR (l7 acc r) rs
theorem FU {n i:Nat} (a:Int) (hi:i<n):ix (List.replicate n a) i=a:=by simp [ix,hi]
theorem Jn (a:ag) (n:Nat) (k:Int) (b:0<n):ix (a++List.replicate n k) ((a++List.replicate n k).length-1)=k:=by
 rw[dy,ae,aS,a8 ω,FU _ ω]
theorem Ps {k:Int} (x:0<=k/\k<=15) (rest:List Rn):∀(n:Nat) (a:ag),(0<k->0<n->3<=n->0<a.length/\ix a (a.length-1)=k)->
  (ik k n++rest).foldl l7 a=rest.foldl l7 (a++List.replicate n k)/\(okR (a++List.replicate n k) rest->okR a (ik k n++rest)):=by
 intro n;induction n using Nat.strongRecOn with
 | _ n ih=>
   intro a y;by_cases m:n=0
   · subst m;rw[tB];simp
   have d:∀(r:Rn) (q:Nat),0<q->q<=n->l7 a r=a++List.replicate q k->ik k n=r::ik k (n-q)->(r.c=16->0<a.length)->yo r->((0<k->0<n-q->3<=n-q->0<(a++List.replicate q k).length/\ix (a++List.replicate q k) ((a++List.replicate q k).length-1)=k))->
     (ik k n++rest).foldl l7 a=rest.foldl l7 (a++List.replicate n k)/\(okR (a++List.replicate n k) rest->okR a (ik k n++rest)):=λr q s C hd b z u v=>by
    obtain⟨p,o⟩ :=ih (n-q) ω (a++List.replicate q k) v;have e:a++List.replicate q k++List.replicate (n-q) k=a++List.replicate n k:=by rw[av,List.replicate_append_replicate,show q+(n-q)=n by omega]
    rw[e]at p o;rw[b,dN,i7,hd];exact⟨p,λh=> ⟨u,z,by rw[hd];exact o h⟩⟩
   have i:∀q,0<q->(0<k->0<n-q->3<=n-q->0<(a++List.replicate q k).length/\ix (a++List.replicate q k) ((a++List.replicate q k).length-1)=k):=λq s _ _ _=> ⟨by rw[ae,aS];omega,Jn a q k s⟩;have f:=Gi x n;by_cases w:k=0
   · subst w;by_cases g:11<=n
     · have b:=Eh g;rw[b]at f;refine d _ (min n 138) ω ω ?_ b (λh=>by simp at h) (f _ aI) (i _ ω);unfold l7 IS.rB;simp only;rw[a8 δ,aa trivial,a8 δ,show 11+(((min n 138:Nat):Int)-11).toNat=min n 138 by omega]
     by_cases j:3<=n
     · have b:=Bw j g;rw[b]at f;have l:ik 0 n= ⟨17,(n:Int)-3,3⟩ ::ik 0 (n-n):=by rw[b,dL,tB]
       refine d _ n ω (af _) ?_ l (λh=>by simp at h) (f _ aI) (λ_ h=>ω);unfold l7 IS.rB;simp only;rw[a8 δ,a8 δ,a8 δ,show 3+((n:Int)-3).toNat=n by omega]
     have b:=vS (k:=0) m (.inl ω);rw[b]at f;refine d _ 1 ω ω ?_ b (λh=>by simp at h) (f _ aI) (i _ ω);unfold l7;rw[aa δ];rfl
   have t:0<k:=ω;by_cases j:3<=n
   · have b:=Bv t j;rw[b]at f;obtain⟨B,A⟩ :=y t ω j;refine d _ (min n 6) ω ω ?_ b (λ_=>B) (f _ aI) (i _ ω);unfold l7 IS.rB;simp only;rw[a8 δ,a8 δ,aa trivial,A,show 3+(((min n 6:Nat):Int)-3).toNat=min n 6 by omega]
   have b:=vS (k:=k) m (.inl ω);rw[b]at f;refine d _ 1 ω ω ?_ b (λh=>by have D:k=16:=h;omega) (f _ aI) (i _ ω);unfold l7;rw[aa (by show k<16;omega)];rfl
theorem JW (k:Int):∀r:ag,r=List.replicate (runN k r) k++r.drop (runN k r)
 | []=>rfl
 | x::r=>by
   unfold runN;by_cases h:x=k
   · rw[aa h,List.replicate_succ,dN,List.drop_succ_cons,<-JW k r,h]
   rw[a8 h];rfl
theorem JZ:∀(n:Nat) (l:ag),l.length=n->(∀i,i<l.length->0<=ix l i/\ix l i<=15)->∀a:ag,(jM l).foldl l7 a=a++l/\okR a (jM l):=by
 intro n;induction n using Nat.strongRecOn with
 | _ n ih=>
   intro l p o a;cases l with
   | nil=>rw[tC];exact⟨σ,trivial⟩
   | cons k r=>
     have j:0<=k/\k<=15:=by have:=o 0 σ;simpa [ix] using this
     have g:=JW k r
     have m:∀i,i<(r.drop (runN k r)).length->0<=ix (r.drop (runN k r)) i/\ix (r.drop (runN k r)) i<=15:=λi hi=>by
      rw[lS];have:=o (runN k r+i+1) (by rw[ay]at hi;simp;omega)
      simpa [ix] using this
     have b:(r.drop (runN k r)).length<n:=by rw[<-p,ay,br];omega
     rw[oo];by_cases f:0<k
     · rw[aa f];obtain⟨d1,d2⟩ :=Ps j (jM (r.drop (runN k r))) (runN k r) (a++[k]) (λ_ _ _=> ⟨σ,Jn a 1 k ω⟩);obtain⟨e,d⟩ :=ih _ b _ rfl m (a++[k]++List.replicate (runN k r) k);have c:l7 a ⟨k,0,0⟩ =a++[k]:=by unfold l7;rw[aa (by show k<16;omega)]
       rw[dN,i7,c,d1,e];refine⟨?_, ⟨⟨by dsimp only;omega,σ,σ,σ,σ,by dsimp only;omega,by dsimp only;omega,by dsimp only;omega⟩,λh=>by have q:k=16:=h;omega,by rw[c];exact d2 d⟩⟩;rw[av,<-g,av];rfl
     rw[a8 f];obtain⟨d1,d2⟩ :=Ps j (jM (r.drop (runN k r))) (runN k r+1) a (λh=>absurd h f);obtain⟨e,d⟩ :=ih _ b _ rfl m (a++List.replicate (runN k r+1) k);rw[d1,e];refine⟨?_,d2 d⟩;rw[av,List.replicate_succ,dN,<-g]
end Go.Proofs.YtgiimmkmjpbecaaGreat
