/-
  part
-/
import Derived.Test.YtddhegejmkgmjaaGreatPk13
import Derived.Test.YtddhegejmkgmjaaGreatPk9
set_option linter.unusedVariables false
set_option maxRecDepth 100000
set_option maxHeartbeats 4000000
namespace Go.Proofs.YtddhegejmkgmjaaGreat
open Go.RowKit
theorem xZ {R:Int->Int->Prop} (c:∀a b,R a b->R b a->a=b):∀{l l':List Int},l.Perm l'->l.Pairwise R->l'.Pairwise R->l=l'
 | [],l',hp,_,_=>(List.Perm.nil_eq hp)
 | a::l,[],hp,_,_=>absurd hp.length_eq σ
 | a::l,b::l',hp,h,h'=>by
   obtain⟨j,i⟩ :=List.pairwise_cons.1 h;obtain⟨g,h4⟩ :=List.pairwise_cons.1 h'
   have e:a=b:=by
    rcases List.mem_cons.1 (hp.mem_iff.1 List.mem_cons_self)with e | f
    · exact e
    · rcases List.mem_cons.1 (hp.mem_iff.2 (List.mem_cons_self (a:=b)))with e | d
      · exact e.symm
      · exact c a b (j b d) (g a f)
   subst e;rw[xZ c (List.perm_cons a |>.1 hp) i h4]
theorem IP {l l':List Int} (b:l.length=l'.length) (h:∀i,i<l.length->ix l i=ix l' i):l=l':=by
 refine List.ext_getElem b λi a c=> ?_
 have:=h i a
 simpa [ix,a,c] using this
theorem cR.uniq {f L q:List Int} {m:Nat} (h:cR f m L) (k:cR f m q):L=q:=by
 obtain⟨n,h⟩ :=h;obtain⟨l,k⟩ :=k;refine IP (n.trans l.symm) λi hi=> ?_
 rw[n]at hi;rcases h with ⟨d,g⟩ | ⟨s,d,g⟩ | ⟨S,d,g,o,h4⟩ <;> rcases k with ⟨c,j⟩ | ⟨t,c,j⟩ | ⟨T,c,j,p,r⟩
 · rw[g i hi,j i hi]
 · rw[d]at c;simp at c
 · rw[d]at c;have:=c.length_eq;simp at this;rw[this]at p;simp at p
 · rw[d]at c;simp at c
 · rw[d]at c;have e:s=t:=by simpa using c
   subst e;rw[g i hi,j i hi]
 · rw[d]at c;have:=c.length_eq;simp at this;omega
 · rw[c]at d;have:=d.length_eq;simp at this;rw[this]at o;simp at o
 · rw[c]at d;have:=d.length_eq;simp at this;omega
 · have e:S=T:=xZ (R:=λs t=>iV f s<iV f t\/(iV f s=iV f t/\s<=t)) (λa b h k=>ω) (d.trans c.symm) g j;subst e;rw[h4 i hi,r i hi]
def Kk (f:Int->Int) (s:Int):List Int->List Int
 | []=>[s]
 | t::r=>if f s<=f t then s::t::r else t::Kk f s r
def Pz (f:Int->Int):List Int->List Int
 | []=>[]
 | s::r=>Kk f s (Pz f r)
theorem rK (f:Int->Int) (s:Int):∀r,(Kk f s r).Perm (s::r)
 | []=>List.Perm.refl _
 | t::r=>by
   unfold Kk
   split
   · exact List.Perm.refl _
   · exact((rK f s r).cons t).trans (List.Perm.swap s t r)
theorem oo (f:Int->Int):∀r,(Pz f r).Perm r
 | []=>List.Perm.refl _
 | s::r=>(rK f s _).trans ((oo f r).cons s)
theorem xO {f:List Int} {s:Int}:∀{r:List Int},tZ f r->(∀t∈r,s<=t)->tZ f (Kk (iV f) s r)
 | [],_,_=>List.pairwise_singleton _ _
 | t::r,h,hs=>by
   obtain⟨c,e⟩ :=List.pairwise_cons.1 h;unfold Kk
   split
   · rename_i b
     refine List.pairwise_cons.2 ⟨λu a=> ?_,h⟩;have d:=hs u a;rcases List.mem_cons.1 a with rfl | a
     · omega
     · have:=c u a;omega
   · rename_i b
     refine List.pairwise_cons.2 ⟨λu a=> ?_,xO e λt ht=>hs t (List.mem_cons_of_mem _ ht)⟩;rcases List.mem_cons.1 ((rK _ _ _).mem_iff.1 a)with rfl | a
     · left;omega
     · exact c u a
theorem yh {f:List Int}:∀{r:List Int},r.Pairwise (· < ·)->tZ f (Pz (iV f) r)
 | [],_=>List.Pairwise.nil
 | s::r,h=>by
   obtain⟨b,a⟩ :=List.pairwise_cons.1 h;exact xO (yh a) λt ht=>Int.le_of_lt (b t ((oo _ _).mem_iff.1 ht))
def jE (f:List Int) (m:Nat):List Int:=
 match aW f f.length with
 | []=>List.replicate f.length 0
 | [s]=>(List.range f.length).map λ(i:Nat)=>if(i:Int)=s then 1 else 0
 | _=>(List.range f.length).map λ(i:Nat)=>((lL (iV f) (Pz (iV f) (aW f f.length)) m (i:Int):Nat):Int)
theorem G9 {n i:Nat} (g:Nat->Int) (hi:i<n):ix ((List.range n).map g) i=g i:=by simp [ix,hi]
theorem iO (f:List Int) (m:Nat):cR f m (jE f m):=by
 unfold jE
 split
 · rename_i h
   exact⟨List.length_replicate, .inl ⟨h,λi hi=>by simp [ix,hi]⟩⟩
 · rename_i s h
   exact⟨σ, .inr (.inl ⟨s,h,λi hi=>G9 _ hi⟩)⟩
 · rename_i b a
   refine⟨σ, .inr (.inr ⟨Pz (iV f) (aW f f.length),oo _ _,yh (AK _), ?_,λi hi=>G9 _ hi⟩)⟩;rw[(oo _ _).length_eq];cases hp:aW f f.length with
   | nil=>exact absurd hp b
   | cons s l=>cases l with
     | nil=>exact absurd hp (a s)
     | cons t l=>simp
theorem cR.eq {f L:List Int} {m:Nat} (h:cR f m L):L=jE f m:=h.uniq (iO f m)
theorem yq {l:List Int} {n:Nat}:∀k:Nat,(∀i,n<=i->i<n+k->ix l i=0)->sumTo l (n+k)=sumTo l n
 | 0,_=>rfl
 | k+1,h=>by
   rw[<-Nat.add_assoc,sumTo,yq k λi a b=>h i a ω,h (n+k) ω ω,iR ω];rfl
theorem fK {l:List Int} {n i:Nat} (h:i<n):ix (l.take n) i=ix l i:=by
 unfold ix;simp only [List.getD_eq_getElem?_getD,List.getElem?_take];rw[if_pos h]
theorem DW {l:List Int} {n:Nat}:∀k:Nat,k<=n->sumTo (l.take n) k=sumTo l k
 | 0,_=>rfl
 | k+1,h=>by rw[sumTo,sumTo,DW k ω,fK ω]
theorem y7 {l f:List Int} {n:Nat} (h:∀i,i<n->(0<ix l i↔0<ix f i)):∀k,k<=n->aR l k=(aW f k).length
 | 0,_=>rfl
 | k+1,hk=>by
   rw[aR,y7 h k ω,aW,List.length_append];by_cases e:0<ix f k
   · rw[if_pos ((h k ω).2 e),if_pos e];rfl
   · rw[if_neg λa=>e ((h k ω).1 a),if_neg e];rfl
theorem vq {l:List Int} {n:Nat}:∀k:Nat,k<=n->aR (l.take n) k=aR l k
 | 0,_=>rfl
 | k+1,h=>by rw[aR,aR,vq k ω,fK ω]
theorem pz {l:List Int} {a:Nat}:∀b,a<=b->aR l a<=aR l b
 | 0,h=>by rw[Nat.le_zero.1 h];exact Nat.le_refl _
 | b+1,h=>by
   by_cases e:a=b+1
   · rw[e];exact Nat.le_refl _
   · rw[aR];have:=pz (l:=l) b (by omega:a<=b);omega
theorem II {l:List Int} {m:Nat} (o:1<=m):∀k:Nat,(∀i,i<k->0<=ix l i/\ix l i<=15)->(aR l k=0->sumTo l k=0)/\(aR l k=1->sumTo l k=16384->∀i,i<k->ix l i<=1)
 | 0,_=> ⟨λ_=>rfl,λh=>by simp [aR]at h⟩
 | k+1,h=>by
   obtain⟨f,r⟩ :=II o k λi hi=>h i ω
   have d:=h k ω;constructor
   · intro a;rw[aR]at a;rw[sumTo,f ω,iR]
     split at a <;> omega
   · intro a b i hi;rw[aR]at a;rw[sumTo]at b;by_cases e:0<ix l k
     · rw[if_pos e]at a;have q:=f ω;obtain⟨v,hv⟩ :=Int.eq_ofNat_of_zero_le d.1;rw[hv]at b e d;rw[q,jn ω ω]at b
       have n:v=1:=by
        rcases Nat.lt_or_ge 1 v with h5 | h5
        · exfalso
          have:=vh (v:=1) ω;have h6:kX v<=kX 2:=by unfold kX;exact Nat.pow_le_pow_right ω ω
          have h7:kX 2=8192:=rfl;omega
        · omega
       by_cases c:i=k
       · rw[c,hv,n];exact Int.le_refl _
       · have p:∀j,j<=k->aR l j=0->∀i,i<j->ix l i<=0:=λj=>by
          induction j with
          | zero=>intro _ _ i hi;omega
          | succ j g=>
            intro t hp i hi;rw[aR]at hp;by_cases s:i=j
            · subst s
              split at hp <;> omega
            · exact g ω ω i ω
         have:=p k (Nat.le_refl _) ω i ω;omega
     · rw[if_neg e]at a;by_cases c:i=k
       · rw[c];omega
       · rw[iR ω]at b;exact r ω ω i ω
theorem pg {f:List Int} {m n:Nat} (e:iP f (m:Int)=0) (s:n<=f.length) (p:∀i,n<=i->i<f.length->ix (jE f m) i=0):ai ((jE f m).take n) (m:Int)=0:=by
 obtain⟨m1,m2,m3,m4,m5⟩ :=uZ e;obtain⟨o,c,k,j⟩ :=(iO f m).snd e;have b:((jE f m).take n).length=n:=by rw[List.length_take,o];omega
 have q:sumTo ((jE f m).take n) n=sumTo (jE f m) f.length:=by
  rw[DW n (Nat.le_refl _)];have:=yq (l:=jE f m) (n:=n) (f.length-n) λi d g=>p i d ω
  rw[show n+(f.length-n)=f.length by omega]at this;exact this.symm
 have t:∀i,i<n->0<=ix ((jE f m).take n) i/\ix ((jE f m).take n) i<=m:=λi hi=>by
  rw[fK hi];exact(c i ω).2
 unfold ai;rw[b,if_neg ω,Ae t,if_neg δ,q];by_cases g:2<=(aW f f.length).length
 · rw[j g,if_neg ω]
 · have x:=k ω
   have u:fS ((jE f m).take n) n=true:=by
    have w:aR (jE f m) f.length=(aW f f.length).length:=y7 (λi hi=>(c i hi).1) _ (Nat.le_refl _);have v:aR ((jE f m).take n) n<=aR (jE f m) f.length:=by rw[vq n (Nat.le_refl _)];exact pz _ s
    have r:=II (l:=jE f m) (m:=1) (Nat.le_refl _) f.length λi hi=>by have:=(c i hi).2;omega
    unfold fS oG;rw[Bool.and_eq_true];refine⟨decide_eq_true λi hi=> ?_,decide_eq_true ω⟩;rw[fK hi];by_cases d:aR (jE f m) f.length=1
    · exact r.2 d ω i ω
    · by_cases h5:0<ix (jE f m) i
      · exfalso
        have h6:0<aR (jE f m) (i+1):=by rw[aR,if_pos h5];omega
        have h7:=pz (l:=jE f m) (a:=i+1) f.length ω;omega
      · omega
   rw[u,if_neg];rintro(h | ⟨-,h⟩)
   · omega
   · exact absurd h δ
def gC (l:List Int) (few:Nat):Nat->Nat
 | 0=>0
 | n+1=>if few<n+1/\ix l n=0 then gC l few n else n+1
theorem qL (l:List Int) (few:Nat):∀n,gC l few n<=n
 | 0=>Nat.le_refl _
 | n+1=>by
   unfold gC;have:=qL l few n
   split <;> omega
theorem yy {l:List Int} {few n:Nat} (h:n<=few):gC l few n=n:=by
 cases n with
 | zero=>rfl
 | succ n=>exact if_neg ω
theorem qK (l:List Int) (few:Nat):∀n,few<=n->few<=gC l few n
 | 0,h=>h
 | n+1,h=>by
   by_cases e:few=n+1
   · rw[yy ω];exact h
   · unfold gC;have:=qK l few n ω
     split <;> omega
theorem fY (l:List Int) (few:Nat):∀n i,gC l few n<=i->i<n->ix l i=0
 | 0,i,_,h=>ω
 | n+1,i,h1,h2=>by
   unfold gC at h1
   split at h1
   · rename_i h
     by_cases e:i=n
     · rw[e];exact h.2
     · exact fY l few n i h1 ω
   · omega
def rM (t:List aF):List Int:=jE (fk t).1 15
def ll (t:List aF):List Int:=jE (fk t).2 15
def bZ (t:List aF):Nat:=gC (rM t) 257 286
def cG (t:List aF):Nat:=gC (ll t) 1 30
def bM (t:List aF):List Int:=(rM t).take (bZ t)
def aV (t:List aF):List Int:=if cG t=1/\ix (ll t) 0=0 then [1] else(ll t).take (cG t)
def aP (t:List aF):List Rn:=eQ (bM t++aV t)
def uC (a:List Rn):List Int:=a.foldl (λl r=>oN l r.c.toNat) (List.replicate 19 0)
def aO (t:List aF):List Int:=jE (uC (aP t)) 7
def eL:List Int:=[16,17,18,0,8,7,9,6,10,5,11,4,12,3,13,2,14,1,15]
def ko (t:List aF):Nat:=gC (eL.map λk=>ix (aO t) k.toNat) 4 19
theorem OE {f:List Int} {m:Nat} (c:f.length<=288) (b:1<=m/\m<=15) (a:∀i,i<f.length->0<=ix f i/\ix f i<=1048576) (d:f.length<=2 ^ m):iP f (m:Int)=0:=by
 unfold iP;rw[if_neg ω,Ht a,if_neg δ,if_neg];rw[Int.toNat_natCast];have:=tQ f f.length;omega
theorem Cr {t:List aF} (ht:t.length<1048576):iP (fk t).1 15=0/\iP (fk t).2 15=0:=by
 obtain⟨c,b⟩ :=iy t;have a:=xE t;constructor
 · exact OE (m:=15) ω ω (λi _=>by have:=a i;omega) (by rw[c];decide)
 · exact OE (m:=15) ω ω (λi _=>by have:=a i;omega) (by rw[b];decide)
theorem Db (t:List aF):(rM t).length=286:=by rw[rM,(iO _ _).1,(iy t).1]
theorem um (t:List aF):(ll t).length=30:=by rw[ll,(iO _ _).1,(iy t).2]
theorem fQ (t:List aF):257<=bZ t/\bZ t<=286:= ⟨qK _ _ _ ω,qL _ _ _⟩
theorem gV (t:List aF):1<=cG t/\cG t<=30:= ⟨qK _ _ _ ω,qL _ _ _⟩
theorem jl (t:List aF):(bM t).length=bZ t:=by rw[bM,List.length_take,Db];have:=fQ t;omega
theorem lT (t:List aF):(aV t).length=cG t:=by
 unfold aV
 split
 · rename_i h;rw[h.1];rfl
 · rw[List.length_take,um];have:=gV t;omega
theorem gz {t:List aF} (ht:t.length<1048576):ai (bM t) 15=0:=
 pg (m:=15) (Cr ht).1 (by rw[(iy t).1];exact(fQ t).2) λi b a=>fY _ 257 286 i b (by rw[(iy t).1]at a;exact a)
theorem fz {t:List aF} (ht:t.length<1048576):ai (aV t) 15=0:=by
 unfold aV
 split
 · decide+kernel
 · exact pg (m:=15) (Cr ht).2 (by rw[(iy t).2];exact(gV t).2) λi b a=>fY _ 1 30 i b (by rw[(iy t).2]at a;exact a)
theorem mO {l:List Int} {m:Int} (h:ai l m=0):∀i,i<l.length->0<=ix l i/\ix l i<=m:=by
 unfold ai at h
 split at h
 · simp at h
 · split at h
   · simp at h
   · rename_i c b
     have a:rJ l m l.length=true:=by simpa using b
     simpa [rJ] using a
theorem yT {t:List aF} (ht:t.length<1048576):∀i,i<(bM t++aV t).length->0<=ix (bM t++aV t) i/\ix (bM t++aV t) i<=15:=λi hi=>by
 rw[aL];rw[List.length_append]at hi
 split
 · exact mO (gz ht) i (by assumption)
 · exact mO (fz ht) _ ω
theorem gB {t:List aF} (ht:t.length<1048576):∀r∈aP t,sS r:=Pr _ (yT ht)
theorem iE (t:List aF):(aP t).length<=316:=by
 have:=yf (bM t++aV t);rw[List.length_append,jl,lT]at this;have:=fQ t;have:=gV t;unfold aP;omega
theorem qg (a:List Rn) (r:Rn):uC (a++[r])=oN (uC a) r.c.toNat:=by simp [uC]
theorem lA (a:List Rn):(uC a).length=19:=by
 refine fu (β:=Nat) (motive:=λa=>(uC a).length=19) ?_ ?_ a
 · exact List.length_replicate
 · intro a r h;rw[qg,pX];exact h
theorem FP (a:List Rn):∀i,0<=ix (uC a) i/\ix (uC a) i<=a.length:=by
 refine fu (β:=Nat) (motive:=λa=>∀i,0<=ix (uC a) i/\ix (uC a) i<=a.length) ?_ ?_ a
 · intro i
   have:ix (uC []) i=0:=by
    unfold ix uC;rw[List.foldl_nil,List.getD_eq_getElem?_getD,List.getElem?_replicate]
    split <;> rfl
   rw[this];simp
 · intro a r h i;rw[qg,dL,List.length_append,List.length_singleton];have:=h i
   split <;> omega
theorem Ny (t:List aF):iP (uC (aP t)) 7=0:=
 OE (m:=7) (by rw[lA];omega) ω (λi _=>by have:=FP (aP t) i;have:=iE t;omega) (by rw[lA];decide)
theorem iD (t:List aF):(aO t).length=19:=by rw[aO,(iO _ _).1,lA]
theorem fA (t:List aF):ai (aO t) 7=0:=by
 have h:=pg (m:=7) (n:=19) (Ny t) (by rw[lA];omega) λi b a=>by rw[lA]at a;omega
 rw[List.take_of_length_le (by have:=iD t;unfold aO at this;omega)]at h;exact h
theorem py (t:List aF):4<=ko t/\ko t<=19:= ⟨qK _ _ _ ω,qL _ _ _⟩
theorem Gi {l:List Int} {m:Int} (c:ai l m=0) {s:Nat} (h:1<=ix l s) (z:List Int):ae l (aM l s++z)=((s:Int),(ix l s).toNat,0)/\(aM l s++z).drop (ix l s).toNat=z:=by
 obtain⟨c1,c2,d⟩ :=Mo c;have b:=B9 h;have e:=c2 s b;have a:=cI l s;refine⟨DZ (N:=(ix l s).toNat) _ ω ω ω b d ?_ ?_, ?_⟩
 · rw[<-a];exact List.take_left
 · rw[List.length_append,a];omega
 · rw[<-a];exact List.drop_left
def gF (a:List Int) (r:Rn):List Int:=
 if r.c<16 then a++[r.c] else a++List.replicate (IS.rB r.c+r.v.toNat) (if r.c=16 then ix a (a.length-1)else 0)
def UJ:List Int->List Rn->Prop
 | _,[]=>True
 | acc,r::rs=>sS r/\(r.c=16->0<acc.length)/\UJ (gF acc r) rs
theorem Am {n i:Nat} (a:Int) (hi:i<n):ix (List.replicate n a) i=a:=by simp [ix,hi]
theorem CX (a:List Int) (n:Nat) (k:Int) (b:0<n):ix (a++List.replicate n k) ((a++List.replicate n k).length-1)=k:=by
 rw[aL,List.length_append,List.length_replicate,if_neg ω,Am _ ω]
theorem IQ {k:Int} (x:0<=k/\k<=15) (rest:List Rn):∀(n:Nat) (a:List Int),(0<k->0<n->3<=n->0<a.length/\ix a (a.length-1)=k)->
  (dg k n++rest).foldl gF a=rest.foldl gF (a++List.replicate n k)/\(UJ (a++List.replicate n k) rest->UJ a (dg k n++rest)):=by
 intro n
 induction n using Nat.strongRecOn with
 | _ n ih=>
   intro a y;by_cases m:n=0
   · subst m;rw[oh];simp
   have d:∀(r:Rn) (q:Nat),0<q->q<=n->gF a r=a++List.replicate q k->dg k n=r::dg k (n-q)->(r.c=16->0<a.length)->sS r->((0<k->0<n-q->3<=n-q->0<(a++List.replicate q k).length/\ix (a++List.replicate q k) ((a++List.replicate q k).length-1)=k))->
     (dg k n++rest).foldl gF a=rest.foldl gF (a++List.replicate n k)/\(UJ (a++List.replicate n k) rest->UJ a (dg k n++rest)):=λr q s C hd b z u v=>by
    obtain⟨p,o⟩ :=ih (n-q) ω (a++List.replicate q k) v;have e:a++List.replicate q k++List.replicate (n-q) k=a++List.replicate n k:=by rw[List.append_assoc,List.replicate_append_replicate,show q+(n-q)=n by omega]
    rw[e]at p o;rw[b,List.cons_append,List.foldl_cons,hd];exact⟨p,λh=> ⟨u,z,by rw[hd];exact o h⟩⟩
   have i:∀q,0<q->(0<k->0<n-q->3<=n-q->0<(a++List.replicate q k).length/\ix (a++List.replicate q k) ((a++List.replicate q k).length-1)=k):=λq s _ _ _=> ⟨by rw[List.length_append,List.length_replicate];omega,CX a q k s⟩
   have f:=AR x n;by_cases w:k=0
   · subst w;by_cases g:11<=n
     · have b:=ye g;rw[b]at f;refine d _ (min n 138) ω ω ?_ b (λh=>by simp at h) (f _ List.mem_cons_self) (i _ ω);unfold gF IS.rB;simp only;rw[if_neg δ,if_pos trivial,if_neg δ,show 11+(((min n 138:Nat):Int)-11).toNat=min n 138 by omega]
     · by_cases j:3<=n
       · have b:=vy j g;rw[b]at f;have l:dg 0 n= ⟨17,(n:Int)-3,3⟩ ::dg 0 (n-n):=by rw[b,Nat.sub_self,oh]
         refine d _ n ω (Nat.le_refl _) ?_ l (λh=>by simp at h) (f _ List.mem_cons_self) (λ_ h=>ω);unfold gF IS.rB;simp only;rw[if_neg δ,if_neg δ,if_neg δ,show 3+((n:Int)-3).toNat=n by omega]
       · have b:=qC (k:=0) m (.inl ω);rw[b]at f;refine d _ 1 ω ω ?_ b (λh=>by simp at h) (f _ List.mem_cons_self) (i _ ω);unfold gF;rw[if_pos δ];rfl
   · have t:0<k:=ω;by_cases j:3<=n
     · have b:=vx t j;rw[b]at f;obtain⟨B,A⟩ :=y t ω j;refine d _ (min n 6) ω ω ?_ b (λ_=>B) (f _ List.mem_cons_self) (i _ ω);unfold gF IS.rB;simp only;rw[if_neg δ,if_neg δ,if_pos trivial,A,show 3+(((min n 6:Nat):Int)-3).toNat=min n 6 by omega]
     · have b:=qC (k:=k) m (.inl ω);rw[b]at f;refine d _ 1 ω ω ?_ b (λh=>by have D:k=16:=h;omega) (f _ List.mem_cons_self) (i _ ω);unfold gF;rw[if_pos (by show k<16;omega)];rfl
theorem Dz (k:Int):∀r:List Int,r=List.replicate (runN k r) k++r.drop (runN k r)
 | []=>rfl
 | x::r=>by
   unfold runN;by_cases h:x=k
   · rw[if_pos h,List.replicate_succ,List.cons_append,List.drop_succ_cons,<-Dz k r,h]
   · rw[if_neg h];rfl
theorem DD:∀(n:Nat) (l:List Int),l.length=n->(∀i,i<l.length->0<=ix l i/\ix l i<=15)->∀a:List Int,(eQ l).foldl gF a=a++l/\UJ a (eQ l):=by
 intro n
 induction n using Nat.strongRecOn with
 | _ n ih=>
   intro l p m a;cases l with
   | nil=>rw[om];exact⟨σ,trivial⟩
   | cons k r=>
     have g:0<=k/\k<=15:=by have:=m 0 σ;simpa [ix] using this
     have f:=Dz k r
     have j:∀i,i<(r.drop (runN k r)).length->0<=ix (r.drop (runN k r)) i/\ix (r.drop (runN k r)) i<=15:=λi hi=>by
      rw[ia];have:=m (runN k r+i+1) (by rw[List.length_drop]at hi;simp;omega)
      simpa [ix] using this
     have b:(r.drop (runN k r)).length<n:=by rw[<-p,List.length_drop,List.length_cons];omega
     rw[jF];by_cases e:0<k
     · rw[if_pos e];obtain⟨d1,d2⟩ :=IQ g (eQ (r.drop (runN k r))) (runN k r) (a++[k]) (λ_ _ _=> ⟨σ,CX a 1 k ω⟩);obtain⟨d,c⟩ :=ih _ b _ rfl j (a++[k]++List.replicate (runN k r) k);have o:gF a ⟨k,0,0⟩ =a++[k]:=by unfold gF;rw[if_pos (by show k<16;omega)]
       rw[List.cons_append,List.foldl_cons,o,d1,d];refine⟨?_, ⟨⟨by dsimp only;omega,σ,σ,σ,σ,by dsimp only;omega,by dsimp only;omega,by dsimp only;omega⟩,λh=>by have q:k=16:=h;omega,by rw[o];exact d2 c⟩⟩;rw[List.append_assoc,<-f,List.append_assoc];rfl
     · rw[if_neg e];obtain⟨d1,d2⟩ :=IQ g (eQ (r.drop (runN k r))) (runN k r+1) a (λh=>absurd h e);obtain⟨d,c⟩ :=ih _ b _ rfl j (a++List.replicate (runN k r+1) k);rw[d1,d];refine⟨?_,d2 c⟩;rw[List.append_assoc,List.replicate_succ,List.cons_append,<-f]
end Go.Proofs.YtddhegejmkgmjaaGreat
