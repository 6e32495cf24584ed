/-
  part
-/
import Derived.Test.YtdhmnlpfhfmpfaaGreatPk10
import Derived.Test.YtdhmnlpfhfmpfaaGreatPk14
set_option linter.unusedVariables false
set_option maxRecDepth 100000
set_option maxHeartbeats 4000000
namespace Go.Proofs.YtdhmnlpfhfmpfaaGreat
open Go.RowKit
theorem DK {R:Int->Int->Prop} (c:∀a b,R a b->R b a->a=b):∀{l l':List Int},l.Perm l'->l.Pairwise R->l'.Pairwise R->l=l'
 | [],l',hp,_,_=>(List.Perm.nil_eq hp)
 | a::l,[],hp,_,_=>absurd hp.length_eq σ
 | a::l,b::l',hp,h,h'=>by
   obtain⟨j,i⟩ :=aR.1 h;obtain⟨g,h4⟩ :=aR.1 h'
   have e:a=b:=by
    rcases aV.1 (hp.mem_iff.1 az)with e | f
    · exact e
    rcases aV.1 (hp.mem_iff.2 (az (a:=b)))with e | d
    · exact e.symm
    exact c a b (j b d) (g a f)
   subst e;rw[DK c (List.perm_cons a |>.1 hp) i h4]
theorem O9 {l l':List Int} (b:l.length=l'.length) (h:∀i,i<l.length->ix l i=ix l' i):l=l':=by
 refine fy b λi a c=> ?_;have:=h i a
 simpa [ix,a,c] using this
theorem mh.uniq {f L p:List Int} {m:Nat} (h:mh f m L) (h':mh f m p):L=p:=by
 obtain⟨l,h⟩ :=h;obtain⟨k,h'⟩ :=h';refine O9 (l.trans k.symm) λi hi=> ?_;rw[l]at hi;rcases h with ⟨d,g⟩ | ⟨s,d,g⟩ | ⟨S,d,g,n,h4⟩ <;> rcases h' with ⟨c,j⟩ | ⟨t,c,j⟩ | ⟨T,c,j,o,q⟩
 · rw[g i hi,j i hi]
 · rw[d]at c;simp at c
 · rw[d]at c;have:=c.length_eq;simp at this;rw[this]at o;simp at o
 · rw[d]at c;simp at c
 · rw[d]at c;have e:s=t:=by simpa using c
   subst e;rw[g i hi,j i hi]
 · rw[d]at c;have:=c.length_eq;simp at this;omega
 · rw[c]at d;have:=d.length_eq;simp at this;rw[this]at n;simp at n
 · rw[c]at d;have:=d.length_eq;simp at this;omega
 have e:S=T:=DK (R:=λs t=>oA f s<oA f t\/(oA f s=oA f t/\s<=t)) (λa b h h'=>ω) (d.trans c.symm) g j;subst e;rw[h4 i hi,q i hi]
def Qh (f:Int->Int) (s:Int):List Int->List Int
 | []=>[s]
 | t::r=>if f s<=f t then s::t::r else t::Qh f s r
def Wv (f:Int->Int):List Int->List Int
 | []=>[]
 | s::r=>Qh f s (Wv f r)
theorem xq (f:Int->Int) (s:Int):∀r,(Qh f s r).Perm (s::r)
 | []=>cO _
 | t::r=>by
   unfold Qh;split
   · exact cO _
   exact((xq f s r).cons t).trans (List.Perm.swap s t r)
theorem tH (f:Int->Int):∀r,(Wv f r).Perm r
 | []=>cO _
 | s::r=>(xq f s _).trans ((tH f r).cons s)
theorem Dx {f:List Int} {s:Int}:∀{r:List Int},zB f r->(∀t∈r,s<=t)->zB f (Qh (oA f) s r)
 | [],_,_=>i7 _ _
 | t::r,h,hs=>by
   obtain⟨c,e⟩ :=aR.1 h;unfold Qh;split
   · rename_i b
     refine aR.2 ⟨λu a=> ?_,h⟩;have d:=hs u a;rcases aV.1 a with rfl | a
     · omega
     have:=c u a;omega
   rename_i b
   refine aR.2 ⟨λu a=> ?_,Dx e λt ht=>hs t (aB _ ht)⟩;rcases aV.1 ((xq _ _ _).mem_iff.1 a)with rfl | a
   · left;omega
   exact c u a
theorem DY {f:List Int}:∀{r:List Int},r.Pairwise (· < ·)->zB f (Wv (oA f) r)
 | [],_=>List.Pairwise.nil
 | s::r,h=>by
   obtain⟨b,a⟩ :=aR.1 h;exact Dx (DY a) λt ht=>jx (b t ((tH _ _).mem_iff.1 ht))
def ou (f:List Int) (m:Nat):List Int:=
 match dQ f f.length with
 | []=>List.replicate f.length 0
 | [s]=>(List.range f.length).map λ(i:Nat)=>if(i:Int)=s then 1 else 0
 | _=>(List.range f.length).map λ(i:Nat)=>((rK (oA f) (Wv (oA f) (dQ f f.length)) m (i:Int):Nat):Int)
theorem LM {n i:Nat} (g:Nat->Int) (hi:i<n):ix ((List.range n).map g) i=g i:=by simp [ix,hi]
theorem mU (f:List Int) (m:Nat):mh f m (ou f m):=by
 unfold ou;split
 · rename_i h
   exact⟨aQ, .inl ⟨h,λi hi=>by simp [ix,hi]⟩⟩
 · rename_i s h
   exact⟨σ, .inr (.inl ⟨s,h,λi hi=>LM _ hi⟩)⟩
 rename_i b a
 refine⟨σ, .inr (.inr ⟨Wv (oA f) (dQ f f.length),tH _ _,DY (FJ _), ?_,λi hi=>LM _ hi⟩)⟩;rw[(tH _ _).length_eq];cases hp:dQ f f.length with
 | nil=>exact absurd hp b
 | cons s l=>cases l with
   | nil=>exact absurd hp (a s)
   | cons t l=>simp
theorem mh.eq {f L:List Int} {m:Nat} (h:mh f m L):L=ou f m:=h.uniq (mU f m)
theorem Ec {l:List Int} {n:Nat}:∀k:Nat,(∀i,n<=i->i<n+k->ix l i=0)->sumTo l (n+k)=sumTo l n
 | 0,_=>rfl
 | k+1,h=>by
   rw[<-eZ,sumTo,Ec k λi a b=>h i a ω,h (n+k) ω ω,mW ω];rfl
theorem kD {l:List Int} {n i:Nat} (h:i<n):ix (l.take n) i=ix l i:=by
 unfold ix;simp only [List.getD_eq_getElem?_getD,List.getElem?_take];rw[ae h]
theorem Jw {l:List Int} {n:Nat}:∀k:Nat,k<=n->sumTo (l.take n) k=sumTo l k
 | 0,_=>rfl
 | k+1,h=>by rw[sumTo,sumTo,Jw k ω,kD ω]
theorem DN {l f:List Int} {n:Nat} (h:∀i,i<n->(0<ix l i↔0<ix f i)):∀k,k<=n->dg l k=(dQ f k).length
 | 0,_=>rfl
 | k+1,hk=>by
   rw[dg,DN h k ω,dQ,af];by_cases e:0<ix f k
   · rw[ae ((h k ω).2 e),ae e];rfl
   rw[aa λa=>e ((h k ω).1 a),aa e];rfl
theorem Bk {l:List Int} {n:Nat}:∀k:Nat,k<=n->dg (l.take n) k=dg l k
 | 0,_=>rfl
 | k+1,h=>by rw[dg,dg,Bk k ω,kD ω]
theorem uJ {l:List Int} {a:Nat}:∀b,a<=b->dg l a<=dg l b
 | 0,h=>by rw[Nat.le_zero.1 h];exact ag _
 | b+1,h=>by
   by_cases e:a=b+1
   · rw[e];exact ag _
   rw[dg];have:=uJ (l:=l) b (by omega:a<=b);omega
theorem O3 {l:List Int} {m:Nat} (o:1<=m):∀k:Nat,(∀i,i<k->0<=ix l i/\ix l i<=15)->(dg l k=0->sumTo l k=0)/\(dg l k=1->sumTo l k=16384->∀i,i<k->ix l i<=1)
 | 0,_=> ⟨λ_=>rfl,λh=>by simp [dg]at h⟩
 | k+1,h=>by
   obtain⟨f,r⟩ :=O3 o k λi hi=>h i ω;have d:=h k ω;constructor
   · intro a;rw[dg]at a;rw[sumTo,f ω,mW];split at a <;> omega
   intro a b i hi;rw[dg]at a;rw[sumTo]at b;by_cases e:0<ix l k
   rotate_left
   · rw[aa e]at a;by_cases c:i=k
     · rw[c];omega
     rw[mW ω]at b;exact r ω ω i ω
   rw[ae e]at a;have q:=f ω;obtain⟨v,hv⟩ :=aG d.1;rw[hv]at b e d;rw[q,pY ω ω]at b
   have n:v=1:=by
    rcases aZ 1 v with h5 | h5
    · exfalso
      have:=Bg (v:=1) ω;have h6:qK v<=qK 2:=by unfold qK;exact bq ω ω
      have h7:qK 2=8192:=rfl;omega
    omega
   by_cases c:i=k
   · rw[c,hv,n];exact df _
   have p:∀j,j<=k->dg l j=0->∀i,i<j->ix l i<=0:=λj=>by
    induction j with
    | zero=>intro _ _ i hi;omega
    | succ j g=>
      intro t hp i hi;rw[dg]at hp;by_cases s:i=j
      · subst s;split at hp <;> omega
      exact g ω ω i ω
   have:=p k (ag _) ω i ω;omega
theorem uC {f:List Int} {m n:Nat} (d:oD f (m:Int)=0) (k:n<=f.length) (hz:∀i,n<=i->i<f.length->ix (ou f m) i=0):bb ((ou f m).take n) (m:Int)=0:=by
 obtain⟨m1,m2,m3,m4,m5⟩ :=Fy d;obtain⟨s1,s2,s3,s4⟩ :=(mU f m).snd d;have b:((ou f m).take n).length=n:=by rw[aA,s1];omega
 have g:sumTo ((ou f m).take n) n=sumTo (ou f m) f.length:=by
  rw[Jw n (ag _)];have:=Ec (l:=ou f m) (n:=n) (f.length-n) λi c e=>hz i c ω;rw[show n+(f.length-n)=f.length by omega]at this;exact this.symm
 have o:∀i,i<n->0<=ix ((ou f m).take n) i/\ix ((ou f m).take n) i<=m:=λi hi=>by
  rw[kD hi];exact(s2 i ω).2
 unfold bb;rw[b,aa ω,Fo o,aa δ,g];by_cases e:2<=(dQ f f.length).length
 · rw[s4 e,aa ω]
 have s:=s3 ω
 have p:kL ((ou f m).take n) n=true:=by
  have r:dg (ou f m) f.length=(dQ f f.length).length:=DN (λi hi=>(s2 i hi).1) _ (ag _);have q:dg ((ou f m).take n) n<=dg (ou f m) f.length:=by rw[Bk n (ag _)];exact uJ _ k
  have j:=O3 (l:=ou f m) (m:=1) (ag _) f.length λi hi=>by have:=(s2 i hi).2;omega
  unfold kL tV;rw[Bool.and_eq_true];refine⟨aS λi hi=> ?_,aS ω⟩;rw[kD hi];by_cases c:dg (ou f m) f.length=1
  · exact j.2 c ω i ω
  by_cases h5:0<ix (ou f m) i
  · exfalso
    have h6:0<dg (ou f m) (i+1):=by rw[dg,ae h5];omega
    have h7:=uJ (l:=ou f m) (a:=i+1) f.length ω;omega
  omega
 rw[p,aa];rintro(h | ⟨-,h⟩)
 · omega
 exact absurd h δ
def l8 (l:List Int) (few:Nat):Nat->Nat
 | 0=>0
 | n+1=>if few<n+1/\ix l n=0 then l8 l few n else n+1
theorem wE (l:List Int) (few:Nat):∀n,l8 l few n<=n
 | 0=>ag _
 | n+1=>by
   unfold l8;have:=wE l few n;split <;> omega
theorem Ei {l:List Int} {few n:Nat} (h:n<=few):l8 l few n=n:=by
 cases n with
 | zero=>rfl
 | succ n=>exact aa ω
theorem wC (l:List Int) (few:Nat):∀n,few<=n->few<=l8 l few n
 | 0,h=>h
 | n+1,h=>by
   by_cases e:few=n+1
   · rw[Ei ω];exact h
   unfold l8;have:=wC l few n ω;split <;> omega
theorem kS (l:List Int) (few:Nat):∀n i,l8 l few n<=i->i<n->ix l i=0
 | 0,i,_,h=>ω
 | n+1,i,h1,h2=>by
   unfold l8 at h1;split at h1
   · rename_i h
     by_cases e:i=n
     · rw[e];exact h.2
     exact kS l few n i h1 ω
   omega
def xv (t:List cu):List Int:=ou (jV t).1 15
def qw (t:List cu):List Int:=ou (jV t).2 15
def fJ (t:List cu):Nat:=l8 (xv t) 257 286
def fT (t:List cu):Nat:=l8 (qw t) 1 30
def eY (t:List cu):List Int:=(xv t).take (fJ t)
def dm (t:List cu):List Int:=if fT t=1/\ix (qw t) 0=0 then [1] else(qw t).take (fT t)
def cY (t:List cu):List Rn:=jH (eY t++dm t)
def xY (a:List Rn):List Int:=a.foldl (λl r=>ub l r.c.toNat) (List.replicate 19 0)
def cV (t:List cu):List Int:=ou (xY (cY t)) 7
def jB:List Int:=[16,17,18,0,8,7,9,6,10,5,11,4,12,3,13,2,14,1,15]
def po (t:List cu):Nat:=l8 (jB.map λk=>ix (cV t) k.toNat) 4 19
theorem Vx {f:List Int} {m:Nat} (c:f.length<=288) (b:1<=m/\m<=15) (a:∀i,i<f.length->0<=ix f i/\ix f i<=1048576) (d:f.length<=2 ^ m):oD f (m:Int)=0:=by
 unfold oD;rw[aa ω,MZ a,aa δ,aa];rw[aU];have:=zo f f.length;omega
theorem Hw {t:List cu} (ht:t.length<1048576):oD (jV t).1 15=0/\oD (jV t).2 15=0:=by
 obtain⟨c,b⟩ :=mB t;have a:=Da t;constructor
 · exact Vx (m:=15) ω ω (λi _=>by have:=a i;omega) (by rw[c];decide)
 exact Vx (m:=15) ω ω (λi _=>by have:=a i;omega) (by rw[b];decide)
theorem IP (t:List cu):(xv t).length=286:=by rw[xv,(mU _ _).1,(mB t).1]
theorem zQ (t:List cu):(qw t).length=30:=by rw[qw,(mU _ _).1,(mB t).2]
theorem kH (t:List cu):257<=fJ t/\fJ t<=286:= ⟨wC _ _ _ ω,wE _ _ _⟩
theorem lM (t:List cu):1<=fT t/\fT t<=30:= ⟨wC _ _ _ ω,wE _ _ _⟩
theorem nU (t:List cu):(eY t).length=fJ t:=by rw[eY,aA,IP];have:=kH t;omega
theorem qN (t:List cu):(dm t).length=fT t:=by
 unfold dm;split
 · rename_i h;rw[h.1];rfl
 rw[aA,zQ];have:=lM t;omega
theorem l4 {t:List cu} (ht:t.length<1048576):bb (eY t) 15=0:=
 uC (m:=15) (Hw ht).1 (by rw[(mB t).1];exact(kH t).2) λi b a=>kS _ 257 286 i b (by rw[(mB t).1]at a;exact a)
theorem kr {t:List cu} (ht:t.length<1048576):bb (dm t) 15=0:=by
 unfold dm;split
 · decide+kernel
 exact uC (m:=15) (Hw ht).2 (by rw[(mB t).2];exact(lM t).2) λi b a=>kS _ 1 30 i b (by rw[(mB t).2]at a;exact a)
theorem rV {l:List Int} {m:Int} (h:bb l m=0):∀i,i<l.length->0<=ix l i/\ix l i<=m:=by
 unfold bb at h;split at h
 · simp at h
 split at h
 · simp at h
 rename_i c b
 have a:yM l m l.length=true:=by simpa using b
 simpa [yM] using a
theorem ED {t:List cu} (ht:t.length<1048576):∀i,i<(eY t++dm t).length->0<=ix (eY t++dm t) i/\ix (eY t++dm t) i<=15:=λi hi=>by
 rw[dn];rw[af]at hi;split
 · exact rV (l4 ht) i (by assumption)
 exact rV (kr ht) _ ω
theorem l7 {t:List cu} (ht:t.length<1048576):∀r∈cY t,yu r:=Wo _ (ED ht)
theorem mH (t:List cu):(cY t).length<=316:=by
 have:=DW (eY t++dm t);rw[af,nU,qN]at this;have:=kH t;have:=lM t;unfold cY;omega
theorem vF (a:List Rn) (r:Rn):xY (a++[r])=ub (xY a) r.c.toNat:=by simp [xY]
theorem qA (a:List Rn):(xY a).length=19:=by
 refine ke (β:=Nat) (motive:=λa=>(xY a).length=19) ?_ ?_ a
 · exact aQ
 intro a r h;rw[vF,vt];exact h
theorem Lk (a:List Rn):∀i,0<=ix (xY a) i/\ix (xY a) i<=a.length:=by
 refine ke (β:=Nat) (motive:=λa=>∀i,0<=ix (xY a) i/\ix (xY a) i<=a.length) ?_ ?_ a
 · intro i
   have:ix (xY []) i=0:=by
    unfold ix xY;rw[List.foldl_nil,aq,dC];split <;> rfl
   rw[this];simp
 intro a r h i;rw[vF,iK,af,cJ];have:=h i;split <;> omega
theorem Um (t:List cu):oD (xY (cY t)) 7=0:=
 Vx (m:=7) (by rw[qA];omega) ω (λi _=>by have:=Lk (cY t) i;have:=mH t;omega) (by rw[qA];decide)
theorem mG (t:List cu):(cV t).length=19:=by rw[cV,(mU _ _).1,qA]
theorem kt (t:List cu):bb (cV t) 7=0:=by
 have h:=uC (m:=7) (n:=19) (Um t) (by rw[qA];omega) λi b a=>by rw[qA]at a;omega
 rw[ay (by have:=mG t;unfold cV at this;omega)]at h;exact h
theorem uI (t:List cu):4<=po t/\po t<=19:= ⟨wC _ _ _ ω,wE _ _ _⟩
theorem LV {l:List Int} {m:Int} (c:bb l m=0) {s:Nat} (h:1<=ix l s) (z:List Int):aI l (cN l s++z)=((s:Int),(ix l s).toNat,0)/\(cN l s++z).drop (ix l s).toNat=z:=by
 obtain⟨c1,c2,d⟩ :=a1S c;have b:=G3 h;have e:=c2 s b;have a:=fU l s;refine⟨Jz (N:=(ix l s).toNat) _ ω ω ω b d ?_ ?_, ?_⟩
 · rw[<-a];exact gy
 · rw[af,a];omega
 rw[<-a];exact gv
def lj (a:List Int) (r:Rn):List Int:=
 if r.c<16 then a++[r.c] else a++List.replicate (IS.rB r.c+r.v.toNat) (if r.c=16 then ix a (a.length-1)else 0)
def okR:List Int->List Rn->Prop
 | _,[]=>True
 | acc,r::rs=>yu r/\(r.c=16->0<acc.length)/\okR (lj acc r) rs
theorem Fq {n i:Nat} (a:Int) (hi:i<n):ix (List.replicate n a) i=a:=by simp [ix,hi]
theorem IC (a:List Int) (n:Nat) (k:Int) (b:0<n):ix (a++List.replicate n k) ((a++List.replicate n k).length-1)=k:=by
 rw[dn,af,aQ,aa ω,Fq _ ω]
theorem Ob {k:Int} (x:0<=k/\k<=15) (rest:List Rn):∀(n:Nat) (a:List Int),(0<k->0<n->3<=n->0<a.length/\ix a (a.length-1)=k)->
  (ij k n++rest).foldl lj a=rest.foldl lj (a++List.replicate n k)/\(okR (a++List.replicate n k) rest->okR a (ij k n++rest)):=by
 intro n;induction n using Nat.strongRecOn with
 | _ n ih=>
   intro a y;by_cases m:n=0
   · subst m;rw[tF];simp
   have d:∀(r:Rn) (q:Nat),0<q->q<=n->lj a r=a++List.replicate q k->ij k n=r::ij k (n-q)->(r.c=16->0<a.length)->yu r->((0<k->0<n-q->3<=n-q->0<(a++List.replicate q k).length/\ix (a++List.replicate q k) ((a++List.replicate q k).length-1)=k))->
     (ij k n++rest).foldl lj a=rest.foldl lj (a++List.replicate n k)/\(okR (a++List.replicate n k) rest->okR a (ij k n++rest)):=λr q s C hd b z u v=>by
    obtain⟨p,o⟩ :=ih (n-q) ω (a++List.replicate q k) v;have e:a++List.replicate q k++List.replicate (n-q) k=a++List.replicate n k:=by rw[ak,List.replicate_append_replicate,show q+(n-q)=n by omega]
    rw[e]at p o;rw[b,dA,gZ,hd];exact⟨p,λh=> ⟨u,z,by rw[hd];exact o h⟩⟩
   have i:∀q,0<q->(0<k->0<n-q->3<=n-q->0<(a++List.replicate q k).length/\ix (a++List.replicate q k) ((a++List.replicate q k).length-1)=k):=λq s _ _ _=> ⟨by rw[af,aQ];omega,IC a q k s⟩;have f:=FN x n;by_cases w:k=0
   · subst w;by_cases g:11<=n
     · have b:=DU g;rw[b]at f;refine d _ (min n 138) ω ω ?_ b (λh=>by simp at h) (f _ az) (i _ ω);unfold lj IS.rB;simp only;rw[aa δ,ae trivial,aa δ,show 11+(((min n 138:Nat):Int)-11).toNat=min n 138 by omega]
     by_cases j:3<=n
     · have b:=Bu j g;rw[b]at f;have l:ij 0 n= ⟨17,(n:Int)-3,3⟩ ::ij 0 (n-n):=by rw[b,dR,tF]
       refine d _ n ω (ag _) ?_ l (λh=>by simp at h) (f _ az) (λ_ h=>ω);unfold lj IS.rB;simp only;rw[aa δ,aa δ,aa δ,show 3+((n:Int)-3).toNat=n by omega]
     have b:=vY (k:=0) m (.inl ω);rw[b]at f;refine d _ 1 ω ω ?_ b (λh=>by simp at h) (f _ az) (i _ ω);unfold lj;rw[ae δ];rfl
   have t:0<k:=ω;by_cases j:3<=n
   · have b:=Br t j;rw[b]at f;obtain⟨B,A⟩ :=y t ω j;refine d _ (min n 6) ω ω ?_ b (λ_=>B) (f _ az) (i _ ω);unfold lj IS.rB;simp only;rw[aa δ,aa δ,ae trivial,A,show 3+(((min n 6:Nat):Int)-3).toNat=min n 6 by omega]
   have b:=vY (k:=k) m (.inl ω);rw[b]at f;refine d _ 1 ω ω ?_ b (λh=>by have D:k=16:=h;omega) (f _ az) (i _ ω);unfold lj;rw[ae (by show k<16;omega)];rfl
theorem Je (k:Int):∀r:List Int,r=List.replicate (runN k r) k++r.drop (runN k r)
 | []=>rfl
 | x::r=>by
   unfold runN;by_cases h:x=k
   · rw[ae h,List.replicate_succ,dA,List.drop_succ_cons,<-Je k r,h]
   rw[aa h];rfl
theorem Ji:∀(n:Nat) (l:List Int),l.length=n->(∀i,i<l.length->0<=ix l i/\ix l i<=15)->∀a:List Int,(jH l).foldl lj a=a++l/\okR a (jH l):=by
 intro n;induction n using Nat.strongRecOn with
 | _ n ih=>
   intro l p m a;cases l with
   | nil=>rw[tG];exact⟨σ,trivial⟩
   | cons k r=>
     have g:0<=k/\k<=15:=by have:=m 0 σ;simpa [ix] using this
     have f:=Je k r
     have j:∀i,i<(r.drop (runN k r)).length->0<=ix (r.drop (runN k r)) i/\ix (r.drop (runN k r)) i<=15:=λi hi=>by
      rw[lQ];have:=m (runN k r+i+1) (by rw[av]at hi;simp;omega)
      simpa [ix] using this
     have b:(r.drop (runN k r)).length<n:=by rw[<-p,av,bc];omega
     rw[ov];by_cases e:0<k
     · rw[ae e];obtain⟨d1,d2⟩ :=Ob g (jH (r.drop (runN k r))) (runN k r) (a++[k]) (λ_ _ _=> ⟨σ,IC a 1 k ω⟩);obtain⟨d,c⟩ :=ih _ b _ rfl j (a++[k]++List.replicate (runN k r) k);have o:lj a ⟨k,0,0⟩ =a++[k]:=by unfold lj;rw[ae (by show k<16;omega)]
       rw[dA,gZ,o,d1,d];refine⟨?_, ⟨⟨by dsimp only;omega,σ,σ,σ,σ,by dsimp only;omega,by dsimp only;omega,by dsimp only;omega⟩,λh=>by have q:k=16:=h;omega,by rw[o];exact d2 c⟩⟩;rw[ak,<-f,ak];rfl
     rw[aa e];obtain⟨d1,d2⟩ :=Ob g (jH (r.drop (runN k r))) (runN k r+1) a (λh=>absurd h e);obtain⟨d,c⟩ :=ih _ b _ rfl j (a++List.replicate (runN k r+1) k);rw[d1,d];refine⟨?_,d2 c⟩;rw[ak,List.replicate_succ,dA,<-f]
end Go.Proofs.YtdhmnlpfhfmpfaaGreat
