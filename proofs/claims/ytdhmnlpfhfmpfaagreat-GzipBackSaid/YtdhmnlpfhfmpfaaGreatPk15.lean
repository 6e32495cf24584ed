/-
  part
-/
import Derived.Test.YtdhmnlpfhfmpfaaGreatPk10
import Derived.Test.YtdhmnlpfhfmpfaaGreatPk14
set_option linter.unusedVariables false
set_option maxRecDepth 100000
set_option maxHeartbeats 4000000
namespace Go.Proofs.YtdhmnlpfhfmpfaaGreat
open Go.RowKit
theorem DR {R:Int->Int->Prop} (c:∀a b,R a b->R b a->a=b):∀{l l':aj},l.Perm l'->l.Pairwise R->l'.Pairwise R->l=l'
 | [],l',hp,_,_=>(List.Perm.nil_eq hp)
 | a::l,[],hp,_,_=>absurd hp.length_eq σ
 | a::l,b::l',hp,h,h'=>by
   obtain⟨j,i⟩ :=aW.1 h;obtain⟨g,h4⟩ :=aW.1 h'
   have e:a=b:=by
    rcases aY.1 (hp.mem_iff.1 aH)with e | f
    · exact e
    rcases aY.1 (hp.mem_iff.2 (aH (a:=b)))with e | d
    · exact e.symm
    exact c a b (j b d) (g a f)
   subst e;rw[DR c (List.perm_cons a |>.1 hp) i h4]
theorem OA {l l':aj} (b:l.length=l'.length) (h:∀i,i<l.length->ix l i=ix l' i):l=l':=by
 refine fw b λi a c=> ?_;have:=h i a
 simpa [ix,a,c] using this
theorem mD.uniq {f L p:aj} {m:Nat} (h:mD f m L) (h':mD f m p):L=p:=by
 obtain⟨l,h⟩ :=h;obtain⟨k,h'⟩ :=h';refine OA (l.trans k.symm) λi hi=> ?_;rw[l]at hi;rcases h with ⟨d,g⟩ | ⟨s,d,g⟩ | ⟨S,d,g,n,h4⟩ <;> rcases h' with ⟨c,j⟩ | ⟨t,c,j⟩ | ⟨T,c,j,o,q⟩
 · rw[g i hi,j i hi]
 · rw[d]at c;simp at c
 · rw[d]at c;have:=c.length_eq;simp at this;rw[this]at o;simp at o
 · rw[d]at c;simp at c
 · rw[d]at c;have e:s=t:=by simpa using c
   subst e;rw[g i hi,j i hi]
 · rw[d]at c;have:=c.length_eq;simp at this;omega
 · rw[c]at d;have:=d.length_eq;simp at this;rw[this]at n;simp at n
 · rw[c]at d;have:=d.length_eq;simp at this;omega
 have e:S=T:=DR (R:=λs t=>qK f s<qK f t\/(qK f s=qK f t/\s<=t)) (λa b h h'=>ω) (d.trans c.symm) g j;subst e;rw[h4 i hi,q i hi]
def QL (f:Int->Int) (s:Int):aj->aj
 | []=>[s]
 | t::r=>if f s<=f t then s::t::r else t::QL f s r
def Xd (f:Int->Int):aj->aj
 | []=>[]
 | s::r=>QL f s (Xd f r)
theorem xM (f:Int->Int) (s:Int):∀r,(QL f s r).Perm (s::r)
 | []=>cS _
 | t::r=>by
   unfold QL;split
   · exact cS _
   exact((xM f s r).cons t).trans (List.Perm.swap s t r)
theorem tQ (f:Int->Int):∀r,(Xd f r).Perm r
 | []=>cS _
 | s::r=>(xM f s _).trans ((tQ f r).cons s)
theorem DC {f:aj} {s:Int}:∀{r:aj},zR f r->(∀t∈r,s<=t)->zR f (QL (qK f) s r)
 | [],_,_=>ie _ _
 | t::r,h,hs=>by
   obtain⟨c,e⟩ :=aW.1 h;unfold QL;split
   · rename_i b
     refine aW.2 ⟨λu a=> ?_,h⟩;have d:=hs u a;rcases aY.1 a with rfl | a
     · omega
     have:=c u a;omega
   rename_i b
   refine aW.2 ⟨λu a=> ?_,DC e λt ht=>hs t (aI _ ht)⟩;rcases aY.1 ((xM _ _ _).mem_iff.1 a)with rfl | a
   · left;omega
   exact c u a
theorem E4 {f:aj}:∀{r:aj},r.Pairwise (· < ·)->zR f (Xd (qK f) r)
 | [],_=>List.Pairwise.nil
 | s::r,h=>by
   obtain⟨b,a⟩ :=aW.1 h;exact DC (E4 a) λt ht=>Int.le_of_lt (b t ((tQ _ _).mem_iff.1 ht))
def oB (f:aj) (m:Nat):aj:=
 match eo f f.length with
 | []=>List.replicate f.length 0
 | [s]=>(List.range f.length).map λ(i:Nat)=>if(i:Int)=s then 1 else 0
 | _=>(List.range f.length).map λ(i:Nat)=>((tZ (qK f) (Xd (qK f) (eo f f.length)) m (i:Int):Nat):Int)
theorem LX {n i:Nat} (g:Nat->Int) (hi:i<n):ix ((List.range n).map g) i=g i:=by simp [ix,hi]
theorem nA (f:aj) (m:Nat):mD f m (oB f m):=by
 unfold oB;split
 · rename_i h
   exact⟨aT, .inl ⟨h,λi hi=>by simp [ix,hi]⟩⟩
 · rename_i s h
   exact⟨σ, .inr (.inl ⟨s,h,λi hi=>LX _ hi⟩)⟩
 rename_i b a
 refine⟨σ, .inr (.inr ⟨Xd (qK f) (eo f f.length),tQ _ _,E4 (FP _), ?_,λi hi=>LX _ hi⟩)⟩;rw[(tQ _ _).length_eq];cases hp:eo f f.length with
 | nil=>exact absurd hp b
 | cons s l=>cases l with
   | nil=>exact absurd hp (a s)
   | cons t l=>simp
theorem mD.eq {f L:aj} {m:Nat} (h:mD f m L):L=oB f m:=h.uniq (nA f m)
theorem Ef {l:aj} {n:Nat}:∀k:Nat,(∀i,n<=i->i<n+k->ix l i=0)->sumTo l (n+k)=sumTo l n
 | 0,_=>rfl
 | k+1,h=>by
   rw[<-eY,sumTo,Ef k λi a b=>h i a ω,h (n+k) ω ω,nC ω];rfl
theorem kQ {l:aj} {n i:Nat} (h:i<n):ix (l.take n) i=ix l i:=by
 unfold ix;simp only [List.getD_eq_getElem?_getD,List.getElem?_take];rw[af h]
theorem JL {l:aj} {n:Nat}:∀k:Nat,k<=n->sumTo (l.take n) k=sumTo l k
 | 0,_=>rfl
 | k+1,h=>by rw[sumTo,sumTo,JL k ω,kQ ω]
theorem DT {l f:aj} {n:Nat} (h:∀i,i<n->(0<ix l i↔0<ix f i)):∀k,k<=n->di l k=(eo f k).length
 | 0,_=>rfl
 | k+1,hk=>by
   rw[di,DT h k ω,eo,ag];by_cases e:0<ix f k
   · rw[af ((h k ω).2 e),af e];rfl
   rw[aa λa=>e ((h k ω).1 a),aa e];rfl
theorem Bw {l:aj} {n:Nat}:∀k:Nat,k<=n->di (l.take n) k=di l k
 | 0,_=>rfl
 | k+1,h=>by rw[di,di,Bw k ω,kQ ω]
theorem uR {l:aj} {a:Nat}:∀b,a<=b->di l a<=di l b
 | 0,h=>by rw[Nat.le_zero.1 h];exact ai _
 | b+1,h=>by
   by_cases e:a=b+1
   · rw[e];exact ai _
   rw[di];have:=uR (l:=l) b (by omega:a<=b);omega
theorem Ot {l:aj} {m:Nat} (o:1<=m):∀k:Nat,(∀i,i<k->0<=ix l i/\ix l i<=15)->(di l k=0->sumTo l k=0)/\(di l k=1->sumTo l k=16384->∀i,i<k->ix l i<=1)
 | 0,_=> ⟨λ_=>rfl,λh=>by simp [di]at h⟩
 | k+1,h=>by
   obtain⟨f,r⟩ :=Ot o k λi hi=>h i ω;have d:=h k ω;constructor
   · intro a;rw[di]at a;rw[sumTo,f ω,nC];split at a <;> omega
   intro a b i hi;rw[di]at a;rw[sumTo]at b;by_cases e:0<ix l k
   rotate_left
   · rw[aa e]at a;by_cases c:i=k
     · rw[c];omega
     rw[nC ω]at b;exact r ω ω i ω
   rw[af e]at a;have q:=f ω;obtain⟨v,hv⟩ :=aJ d.1;rw[hv]at b e d;rw[q,qj ω ω]at b
   have n:v=1:=by
    rcases aV 1 v with h5 | h5
    · exfalso
      have:=Bu (v:=1) ω;have h6:qX v<=qX 2:=by unfold qX;exact bC ω ω
      have h7:qX 2=8192:=rfl;omega
    omega
   by_cases c:i=k
   · rw[c,hv,n];exact ez _
   have p:∀j,j<=k->di l j=0->∀i,i<j->ix l i<=0:=λj=>by
    induction j with
    | zero=>intro _ _ i hi;omega
    | succ j g=>
      intro t hp i hi;rw[di]at hp;by_cases s:i=j
      · subst s;split at hp <;> omega
      exact g ω ω i ω
   have:=p k (ai _) ω i ω;omega
theorem uK {f:aj} {m n:Nat} (d:oN f (m:Int)=0) (k:n<=f.length) (hz:∀i,n<=i->i<f.length->ix (oB f m) i=0):bg ((oB f m).take n) (m:Int)=0:=by
 obtain⟨m1,m2,m3,m4,m5⟩ :=FE d;obtain⟨s1,s2,s3,s4⟩ :=(nA f m).snd d;have b:((oB f m).take n).length=n:=by rw[aD,s1];omega
 have g:sumTo ((oB f m).take n) n=sumTo (oB f m) f.length:=by
  rw[JL n (ai _)];have:=Ef (l:=oB f m) (n:=n) (f.length-n) λi c e=>hz i c ω;rw[show n+(f.length-n)=f.length by omega]at this;exact this.symm
 have o:∀i,i<n->0<=ix ((oB f m).take n) i/\ix ((oB f m).take n) i<=m:=λi hi=>by
  rw[kQ hi];exact(s2 i ω).2
 unfold bg;rw[b,aa ω,Fx o,aa δ,g];by_cases e:2<=(eo f f.length).length
 · rw[s4 e,aa ω]
 have s:=s3 ω
 have p:kW ((oB f m).take n) n=true:=by
  have r:di (oB f m) f.length=(eo f f.length).length:=DT (λi hi=>(s2 i hi).1) _ (ai _);have q:di ((oB f m).take n) n<=di (oB f m) f.length:=by rw[Bw n (ai _)];exact uR _ k
  have j:=Ot (l:=oB f m) (m:=1) (ai _) f.length λi hi=>by have:=(s2 i hi).2;omega
  unfold kW ui;rw[Bool.and_eq_true];refine⟨aS λi hi=> ?_,aS ω⟩;rw[kQ hi];by_cases c:di (oB f m) f.length=1
  · exact j.2 c ω i ω
  by_cases h5:0<ix (oB f m) i
  · exfalso
    have h6:0<di (oB f m) (i+1):=by rw[di,af h5];omega
    have h7:=uR (l:=oB f m) (a:=i+1) f.length ω;omega
  omega
 rw[p,aa];rintro(h | ⟨-,h⟩)
 · omega
 exact absurd h δ
def ly (l:aj) (few:Nat):Nat->Nat
 | 0=>0
 | n+1=>if few<n+1/\ix l n=0 then ly l few n else n+1
theorem wT (l:aj) (few:Nat):∀n,ly l few n<=n
 | 0=>ai _
 | n+1=>by
   unfold ly;have:=wT l few n;split <;> omega
theorem Em {l:aj} {few n:Nat} (h:n<=few):ly l few n=n:=by
 cases n with
 | zero=>rfl
 | succ n=>exact aa ω
theorem wR (l:aj) (few:Nat):∀n,few<=n->few<=ly l few n
 | 0,h=>h
 | n+1,h=>by
   by_cases e:few=n+1
   · rw[Em ω];exact h
   unfold ly;have:=wR l few n ω;split <;> omega
theorem l8 (l:aj) (few:Nat):∀n i,ly l few n<=i->i<n->ix l i=0
 | 0,i,_,h=>ω
 | n+1,i,h1,h2=>by
   unfold ly at h1;split at h1
   · rename_i h
     by_cases e:i=n
     · rw[e];exact h.2
     exact l8 l few n i h1 ω
   omega
def xP (t:List cy):aj:=oB (kf t).1 15
def qG (t:List cy):aj:=oB (kf t).2 15
def fP (t:List cy):Nat:=ly (xP t) 257 286
def fX (t:List cy):Nat:=ly (qG t) 1 30
def eX (t:List cy):aj:=(xP t).take (fP t)
def dn (t:List cy):aj:=if fX t=1/\ix (qG t) 0=0 then [1] else(qG t).take (fX t)
def dc (t:List cy):List Rn:=jL (eX t++dn t)
def yx (a:List Rn):aj:=a.foldl (λl r=>ur l r.c.toNat) (List.replicate 19 0)
def cY (t:List cy):aj:=oB (yx (dc t)) 7
def jF:aj:=[16,17,18,0,8,7,9,6,10,5,11,4,12,3,13,2,14,1,15]
def pI (t:List cy):Nat:=ly (jF.map λk=>ix (cY t) k.toNat) 4 19
theorem Wa {f:aj} {m:Nat} (c:f.length<=288) (b:1<=m/\m<=15) (a:∀i,i<f.length->0<=ix f i/\ix f i<=1048576) (d:f.length<=2 ^ m):oN f (m:Int)=0:=by
 unfold oN;rw[aa ω,Nl a,aa δ,aa];rw[aX];have:=zG f f.length;omega
theorem I7 {t:List cy} (ht:t.length<1048576):oN (kf t).1 15=0/\oN (kf t).2 15=0:=by
 obtain⟨c,b⟩ :=mJ t;have a:=Di t;constructor
 · exact Wa (m:=15) ω ω (λi _=>by have:=a i;omega) (by rw[c];decide)
 exact Wa (m:=15) ω ω (λi _=>by have:=a i;omega) (by rw[b];decide)
theorem J8 (t:List cy):(xP t).length=286:=by rw[xP,(nA _ _).1,(mJ t).1]
theorem Az (t:List cy):(qG t).length=30:=by rw[qG,(nA _ _).1,(mJ t).2]
theorem kT (t:List cy):257<=fP t/\fP t<=286:= ⟨wR _ _ _ ω,wT _ _ _⟩
theorem lY (t:List cy):1<=fX t/\fX t<=30:= ⟨wR _ _ _ ω,wT _ _ _⟩
theorem o9 (t:List cy):(eX t).length=fP t:=by rw[eX,aD,J8];have:=kT t;omega
theorem qZ (t:List cy):(dn t).length=fX t:=by
 unfold dn;split
 · rename_i h;rw[h.1];rfl
 rw[aD,Az];have:=lY t;omega
theorem lr {t:List cy} (ht:t.length<1048576):bg (eX t) 15=0:=
 uK (m:=15) (I7 ht).1 (by rw[(mJ t).1];exact(kT t).2) λi b a=>l8 _ 257 286 i b (by rw[(mJ t).1]at a;exact a)
theorem kE {t:List cy} (ht:t.length<1048576):bg (dn t) 15=0:=by
 unfold dn;split
 · decide+kernel
 exact uK (m:=15) (I7 ht).2 (by rw[(mJ t).2];exact(lY t).2) λi b a=>l8 _ 1 30 i b (by rw[(mJ t).2]at a;exact a)
theorem sj {l:aj} {m:Int} (h:bg l m=0):∀i,i<l.length->0<=ix l i/\ix l i<=m:=by
 unfold bg at h;split at h
 · simp at h
 split at h
 · simp at h
 rename_i c b
 have a:zh l m l.length=true:=by simpa using b
 simpa [zh] using a
theorem EF {t:List cy} (ht:t.length<1048576):∀i,i<(eX t++dn t).length->0<=ix (eX t++dn t) i/\ix (eX t++dn t) i<=15:=λi hi=>by
 rw[dg];rw[ag]at hi;split
 · exact sj (lr ht) i (by assumption)
 exact sj (kE ht) _ ω
theorem lu {t:List cy} (ht:t.length<1048576):∀r∈dc t,yQ r:=X4 _ (EF ht)
theorem mP (t:List cy):(dc t).length<=316:=by
 have:=E0 (eX t++dn t);rw[ag,o9,qZ]at this;have:=kT t;have:=lY t;unfold dc;omega
theorem vS (a:List Rn) (r:Rn):yx (a++[r])=ur (yx a) r.c.toNat:=by simp [yx]
theorem qL (a:List Rn):(yx a).length=19:=by
 refine kx (β:=Nat) (motive:=λa=>(yx a).length=19) ?_ ?_ a
 · exact aT
 intro a r h;rw[vS,vH];exact h
theorem LA (a:List Rn):∀i,0<=ix (yx a) i/\ix (yx a) i<=a.length:=by
 refine kx (β:=Nat) (motive:=λa=>∀i,0<=ix (yx a) i/\ix (yx a) i<=a.length) ?_ ?_ a
 · intro i
   have:ix (yx []) i=0:=by
    unfold ix yx;rw[List.foldl_nil,aq,dI];split <;> rfl
   rw[this];simp
 intro a r h i;rw[vS,iP,ag,cN];have:=h i;split <;> omega
theorem UY (t:List cy):oN (yx (dc t)) 7=0:=
 Wa (m:=7) (by rw[qL];omega) ω (λi _=>by have:=LA (dc t) i;have:=mP t;omega) (by rw[qL];decide)
theorem mO (t:List cy):(cY t).length=19:=by rw[cY,(nA _ _).1,qL]
theorem kF (t:List cy):bg (cY t) 7=0:=by
 have h:=uK (m:=7) (n:=19) (UY t) (by rw[qL];omega) λi b a=>by rw[qL]at a;omega
 rw[aC (by have:=mO t;unfold cY at this;omega)]at h;exact h
theorem uQ (t:List cy):4<=pI t/\pI t<=19:= ⟨wR _ _ _ ω,wT _ _ _⟩
theorem Mh {l:aj} {m:Int} (c:bg l m=0) {s:Nat} (h:1<=ix l s) (z:aj):aK l (cR l s++z)=((s:Int),(ix l s).toNat,0)/\(cR l s++z).drop (ix l s).toNat=z:=by
 obtain⟨c1,c2,d⟩ :=a2y c;have b:=Gb h;have e:=c2 s b;have a:=fY l s;refine⟨JO (N:=(ix l s).toNat) _ ω ω ω b d ?_ ?_, ?_⟩
 · rw[<-a];exact gD
 · rw[ag,a];omega
 rw[<-a];exact gC
def lC (a:aj) (r:Rn):aj:=
 if r.c<16 then a++[r.c] else a++List.replicate (IS.rB r.c+r.v.toNat) (if r.c=16 then ix a (a.length-1)else 0)
def okR:aj->List Rn->Prop
 | _,[]=>True
 | acc,r::rs=>yQ r/\(r.c=16->0<acc.length)/\okR (lC acc r) rs
theorem Fz {n i:Nat} (a:Int) (hi:i<n):ix (List.replicate n a) i=a:=by simp [ix,hi]
theorem IZ (a:aj) (n:Nat) (k:Int) (b:0<n):ix (a++List.replicate n k) ((a++List.replicate n k).length-1)=k:=by
 rw[dg,ag,aT,aa ω,Fz _ ω]
theorem OC {k:Int} (x:0<=k/\k<=15) (rest:List Rn):∀(n:Nat) (a:aj),(0<k->0<n->3<=n->0<a.length/\ix a (a.length-1)=k)->
  (iq k n++rest).foldl lC a=rest.foldl lC (a++List.replicate n k)/\(okR (a++List.replicate n k) rest->okR a (iq k n++rest)):=by
 intro n;induction n using Nat.strongRecOn with
 | _ n ih=>
   intro a y;by_cases m:n=0
   · subst m;rw[tO];simp
   have d:∀(r:Rn) (q:Nat),0<q->q<=n->lC a r=a++List.replicate q k->iq k n=r::iq k (n-q)->(r.c=16->0<a.length)->yQ r->((0<k->0<n-q->3<=n-q->0<(a++List.replicate q k).length/\ix (a++List.replicate q k) ((a++List.replicate q k).length-1)=k))->
     (iq k n++rest).foldl lC a=rest.foldl lC (a++List.replicate n k)/\(okR (a++List.replicate n k) rest->okR a (iq k n++rest)):=λr q s C hd b z u v=>by
    obtain⟨p,o⟩ :=ih (n-q) ω (a++List.replicate q k) v;have e:a++List.replicate q k++List.replicate (n-q) k=a++List.replicate n k:=by rw[av,List.replicate_append_replicate,show q+(n-q)=n by omega]
    rw[e]at p o;rw[b,dD,ic,hd];exact⟨p,λh=> ⟨u,z,by rw[hd];exact o h⟩⟩
   have i:∀q,0<q->(0<k->0<n-q->3<=n-q->0<(a++List.replicate q k).length/\ix (a++List.replicate q k) ((a++List.replicate q k).length-1)=k):=λq s _ _ _=> ⟨by rw[ag,aT];omega,IZ a q k s⟩;have f:=FU x n;by_cases w:k=0
   · subst w;by_cases g:11<=n
     · have b:=DY g;rw[b]at f;refine d _ (min n 138) ω ω ?_ b (λh=>by simp at h) (f _ aH) (i _ ω);unfold lC IS.rB;simp only;rw[aa δ,af trivial,aa δ,show 11+(((min n 138:Nat):Int)-11).toNat=min n 138 by omega]
     by_cases j:3<=n
     · have b:=BD j g;rw[b]at f;have l:iq 0 n= ⟨17,(n:Int)-3,3⟩ ::iq 0 (n-n):=by rw[b,dG,tO]
       refine d _ n ω (ai _) ?_ l (λh=>by simp at h) (f _ aH) (λ_ h=>ω);unfold lC IS.rB;simp only;rw[aa δ,aa δ,aa δ,show 3+((n:Int)-3).toNat=n by omega]
     have b:=wI (k:=0) m (.inl ω);rw[b]at f;refine d _ 1 ω ω ?_ b (λh=>by simp at h) (f _ aH) (i _ ω);unfold lC;rw[af δ];rfl
   have t:0<k:=ω;by_cases j:3<=n
   · have b:=BC t j;rw[b]at f;obtain⟨B,A⟩ :=y t ω j;refine d _ (min n 6) ω ω ?_ b (λ_=>B) (f _ aH) (i _ ω);unfold lC IS.rB;simp only;rw[aa δ,aa δ,af trivial,A,show 3+(((min n 6:Nat):Int)-3).toNat=min n 6 by omega]
   have b:=wI (k:=k) m (.inl ω);rw[b]at f;refine d _ 1 ω ω ?_ b (λh=>by have D:k=16:=h;omega) (f _ aH) (i _ ω);unfold lC;rw[af (by show k<16;omega)];rfl
theorem Ju (k:Int):∀r:aj,r=List.replicate (runN k r) k++r.drop (runN k r)
 | []=>rfl
 | x::r=>by
   unfold runN;by_cases h:x=k
   · rw[af h,List.replicate_succ,dD,List.drop_succ_cons,<-Ju k r,h]
   rw[aa h];rfl
theorem Jy:∀(n:Nat) (l:aj),l.length=n->(∀i,i<l.length->0<=ix l i/\ix l i<=15)->∀a:aj,(jL l).foldl lC a=a++l/\okR a (jL l):=by
 intro n;induction n using Nat.strongRecOn with
 | _ n ih=>
   intro l p o a;cases l with
   | nil=>rw[tP];exact⟨σ,trivial⟩
   | cons k r=>
     have j:0<=k/\k<=15:=by have:=o 0 σ;simpa [ix] using this
     have g:=Ju k r
     have m:∀i,i<(r.drop (runN k r)).length->0<=ix (r.drop (runN k r)) i/\ix (r.drop (runN k r)) i<=15:=λi hi=>by
      rw[mg];have:=o (runN k r+i+1) (by rw[az]at hi;simp;omega)
      simpa [ix] using this
     have b:(r.drop (runN k r)).length<n:=by rw[<-p,az,bc];omega
     rw[oC];by_cases f:0<k
     · rw[af f];obtain⟨d1,d2⟩ :=OC j (jL (r.drop (runN k r))) (runN k r) (a++[k]) (λ_ _ _=> ⟨σ,IZ a 1 k ω⟩);obtain⟨e,d⟩ :=ih _ b _ rfl m (a++[k]++List.replicate (runN k r) k);have c:lC a ⟨k,0,0⟩ =a++[k]:=by unfold lC;rw[af (by show k<16;omega)]
       rw[dD,ic,c,d1,e];refine⟨?_, ⟨⟨by dsimp only;omega,σ,σ,σ,σ,by dsimp only;omega,by dsimp only;omega,by dsimp only;omega⟩,λh=>by have q:k=16:=h;omega,by rw[c];exact d2 d⟩⟩;rw[av,<-g,av];rfl
     rw[aa f];obtain⟨d1,d2⟩ :=OC j (jL (r.drop (runN k r))) (runN k r+1) a (λh=>absurd h f);obtain⟨e,d⟩ :=ih _ b _ rfl m (a++List.replicate (runN k r+1) k);rw[d1,e];refine⟨?_,d2 d⟩;rw[av,List.replicate_succ,dD,<-g]
end Go.Proofs.YtdhmnlpfhfmpfaaGreat
