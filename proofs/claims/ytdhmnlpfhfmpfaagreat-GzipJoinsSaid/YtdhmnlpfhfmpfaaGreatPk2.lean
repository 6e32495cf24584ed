/-
  part
-/
import Derived.Test.YtdhmnlpfhfmpfaaGreatPk1
set_option linter.unusedVariables false
set_option maxRecDepth 100000
set_option maxHeartbeats 4000000
namespace Go.Proofs.YtdhmnlpfhfmpfaaGreat
def dO (f:Int->Int) (S:List Int):List Pk:=S.map λs=> ⟨f s,[s]⟩
def G5 (f:Int->Int) (S:List Int) (m:Nat):List Int:=rO ((lev (dO f S) (m-1)).take (2*S.length-2))
def rK (f:Int->Int) (S:List Int) (m:Nat) (s:Int):Nat:=(G5 f S m).count s
def pJ:List Nat->Nat->Nat
 | [],_=>0
 | b::B,r=>(if r<b then 1 else 0)+pJ B r
def RV:List Nat->Nat->Nat
 | [],_=>0
 | b::B,r=>(if r<b then 2 ^ B.length else 0)+RV B r
section
variable {f:Int->Int} {S:List Int} {m n:Nat}
theorem Ts (f:Int->Int) (S:List Int):rO (dO f S)=S:=by
 induction S with
 | nil=>rfl
 | cons s S a=>rw[dO,bG,sj];show [s]++rO (dO f S)=_;rw[a];rfl
theorem X9 (f:Int->Int) (S:List Int):pD (dO f S)=(S.map f).sum:=by
 induction S with
 | nil=>rfl
 | cons s S a=>rw[dO,bG,iv];show f s+pD (dO f S)=_;rw[a];simp
theorem B6 (f:Int->Int) (S:List Int) (b:Nat):(dO f S).take b=dO f (S.take b):=by unfold dO;rw[List.map_take]
theorem jf (f:Int->Int) (S:List Int):(dO f S).length=S.length:=by simp [dO]
theorem Fv (h:S.Pairwise λs t=>f s<=f t):Kk (dO f S):=by
 unfold Kk dO;rw[List.pairwise_map];exact h
theorem kj:∀p∈dO f S,∃s∈S,p.w=f s/\p.l=[s]:=λp hp=>by
 obtain⟨s,a,rfl⟩ :=gF.1 hp;exact⟨s,a,rfl,rfl⟩
theorem a4k (l:List Nat) (h:∀x∈l,1<=x):l.length<=l.sum:=by
 induction l with
 | nil=>exact ag _
 | cons x l a=>
   have:=h x az;have:=a λy b=>h y (aB _ b);simp only [List.length_cons,List.sum_cons];omega
theorem BN {a b:List Nat} (h:a.Perm b):a.sum=b.sum:=by
 induction h with
 | nil=>rfl
 | cons x _ ih=>rw[bL,bL,ih]
 | swap x y l=>simp only [List.sum_cons];omega
 | trans _ _ h1 h2=>exact h1.trans h2
theorem Ea {a b:List Int} (h:a.Perm b):a.sum=b.sum:=by
 induction h with
 | nil=>rfl
 | cons x _ ih=>rw[bL,bL,ih]
 | swap x y l=>simp only [List.sum_cons];omega
 | trans _ _ h1 h2=>exact h1.trans h2
theorem QB (S:List Int):(List.range S.length).map (ix S)=S:=by
 apply fy
 · simp
 intro i b a;simp [ix,a]
theorem Eb (b c:Nat):∀n,b<=n->((List.range n).map λr=>if r<b then c else 0).sum=b*c:=by
 intro n;induction n generalizing b with
 | zero=>intro h;obtain rfl:b=0:=ω
         simp
 | succ n a=>
   intro h;rw[jr,dt,fK];by_cases e:b=n+1
   · subst e
     have f:((List.range n).map λr=>if r<n+1 then c else 0)=(List.range n).map λr=>if r<n then c else 0:=bD λr d=>by
      have:=iy.1 d;rw[ae ω,ae ω]
     rw[f,a n (ag _)];simp [Nat.add_mul]
   rw[a b ω];simp only [List.map_cons,List.map_nil,List.sum_cons,List.sum_nil];rw[aa ω];omega
theorem sum_add {α:Type} (l:List α) (g h:α->Nat):(l.map λx=>g x+h x).sum=(l.map g).sum+(l.map h).sum:=by
 induction l with
 | nil=>rfl
 | cons x l a=>simp only [List.map_cons,List.sum_cons,a];omega
theorem Jv {α:Type} (l:List α) (g h:α->Int):(l.map λx=>g x+h x).sum=(l.map g).sum+(l.map h).sum:=by
 induction l with
 | nil=>rfl
 | cons x l a=>simp only [List.map_cons,List.sum_cons,a];omega
theorem a0y {α:Type} (l:List α) (g h:α->Int) (H:∀x∈l,g x<=h x):(l.map g).sum<=(l.map h).sum:=by
 induction l with
 | nil=>exact df _
 | cons x l a=>
   simp only [List.map_cons,List.sum_cons];have:=H x az;have:=a λy b=>H y (aB _ b);omega
theorem a3Q (B:List Nat) (n:Nat) (h:∀b∈B,b<=n):((List.range n).map (RV B)).sum=ly B:=by
 induction B with
 | nil=>simp only [RV,ly];induction n with
        | zero=>rfl
        | succ n a=>rw[jr,dt,fK,a σ];rfl
 | cons b B a=>
   have e:(RV (b::B))=λr=>(if r<b then 2 ^ B.length else 0)+RV B r:=by funext r;rfl
   rw[e,sum_add,Eb _ _ _ (h b az),ly,a λc d=>h c (aB _ d)]
theorem SS (B:List Nat) (r:Nat) (h:∀b∈B,b<=r):pJ B r=0/\RV B r=0:=by
 induction B with
 | nil=>exact⟨rfl,rfl⟩
 | cons b B a=>
   have:=h b az;obtain⟨f,e⟩ :=a λc d=>h c (aB _ d);rw[pJ,RV,aa ω,aa ω,f,e];exact⟨rfl,rfl⟩
theorem N6 (B:List Nat) (r:Nat):pJ B r<=B.length:=by
 induction B with
 | nil=>exact ag _
 | cons b B a=>rw[pJ,bc];split <;> omega
theorem OZ (B:List Nat) {r a:Nat} (h:r<=a):pJ B a<=pJ B r:=by
 induction B with
 | nil=>exact ag _
 | cons b B d=>
   rw[pJ,pJ];by_cases c:a<b
   · rw[ae c,ae ω];omega
   rw[aa c];split <;> omega
theorem a3P (B:List Nat) (r:Nat) (i:B.Pairwise λc d=>d<=c):2 ^ (B.length-pJ B r)+RV B r=2 ^ B.length:=by
 induction B with
 | nil=>rfl
 | cons b B g=>
   obtain⟨k,j⟩ :=aR.1 i;have a:=N6 B r;by_cases h:r<b
   · rw[pJ,RV,ae h,ae h,bc,show B.length+1-(1+pJ B r)=B.length-pJ B r by omega,eB];have:=g j;omega
   obtain⟨f,e⟩ :=SS B r λc a=>by have:=k c a;omega
   rw[pJ,RV,aa h,aa h,f,e];rfl
theorem xr {S:List Int} {r:Nat} (a:r<S.length):ix S r∈S:=by
 have:ix S r=S[r]:=by simp [ix,a]
 rw[this];exact cF a
theorem KB (j:S.Nodup) {r:Nat} (f:r<S.length) (b:Nat):(S.take b).count (ix S r)=if r<b then 1 else 0:=by
 induction S generalizing r b with
 | nil=>simp at f
 | cons x a i=>
   obtain⟨g,k⟩ :=List.nodup_cons.1 j;cases b with
   | zero=>simp
   | succ b=>
     rw[bM,List.count_cons];cases r with
     | zero=>
       have e:ix (x::a) 0=x:=rfl;rw[e,List.count_eq_zero_of_not_mem λh=>g (aH h)];simp
     | succ r=>
       have c:r<a.length:=by simpa using f
       have e:ix (x::a) (r+1)=ix a r:=rfl;have d:x≠ix a r:=λh=>g (by rw[h];exact xr c);rw[e,i k c];simp [d]
theorem KA (d:S.Nodup) {r:Nat} (c:r<S.length) (B:List Nat):(B.flatMap λb=>S.take b).count (ix S r)=pJ B r:=by
 induction B with
 | nil=>rfl
 | cons b B a=>rw[List.flatMap_cons,fV,a,KB d c,pJ]
theorem B8 (f:Int->Int) (S:List Int) (k:Nat):∀p∈lev (dO f S) k,p.w=(p.l.map f).sum/\∀s∈p.l,s∈S:=by
 have e:∀p∈dO f S,p.w=(p.l.map f).sum/\∀s∈p.l,s∈S:=λp hp=>by
  obtain⟨s,a,j,i⟩ :=kj p hp;rw[j,i];refine⟨σ,λt ht=> ?_⟩;rw[bg.1 ht];exact a
 induction k with
 | zero=>exact e
 | succ k b=>
   intro p hp;rcases aN.1 ((pS _ _).mem_iff.1 hp)with h | h
   · exact e p h
   obtain⟨c,g,d,hd,n,m⟩ :=tE _ p h;obtain⟨c1,c2⟩ :=b c g;obtain⟨d1,d2⟩ :=b d hd;rw[n,m,c1,d1];refine⟨σ,λs a=> ?_⟩;rcases aN.1 a with h | h
   · exact c2 s h
   exact d2 s h
theorem a0J (f:Int->Int) (l:List Pk) (h:∀p∈l,p.w=(p.l.map f).sum):pD l=((rO l).map f).sum:=by
 induction l with
 | nil=>rfl
 | cons p l a=>rw[iv,sj,dt,fK,h p az,a λq b=>h q (aB _ b)]
theorem VZ (f:Int->Int) {t:Int} (d:S.Nodup) (ht:t∈S):(S.map λs=>f s*(if t=s then 1 else 0)).sum=f t:=by
 induction S with
 | nil=>simp at ht
 | cons s S a=>
   obtain⟨j,i⟩ :=List.nodup_cons.1 d;rw[bG,bL];by_cases e:t=s
   · subst e
     have hz:(S.map λs=>f s*(if t=s then 1 else 0))=S.map λ_=>(0:Int):=bD λu c=>by
      rw[aa (λk=>j (by rw[k];exact c)),Int.mul_zero]
     have b:∀l:List Int,(l.map λ_=>(0:Int)).sum=0:=λl=>by induction l with
      | nil=>rfl
      | cons x l a=>rw[bG,bL,a];rfl
     rw[hz,b,ae rfl];omega
   have g:t∈S:=by
    rcases aV.1 ht with h | h
    · exact absurd h e
    exact h
   rw[a i g,aa e];omega
theorem QW (f:Int->Int) (c:S.Nodup) (T:List Int) (h:∀t∈T,t∈S):(T.map f).sum=(S.map λs=>f s*((T.count s:Nat):Int)).sum:=by
 induction T with
 | nil=>
   have:∀l:List Int,(l.map λs=>f s*((([]:List Int).count s:Nat):Int)).sum=0:=λl=>by
    induction l with
    | nil=>rfl
    | cons x l a=>rw[bG,bL,a];simp
   rw[this];rfl
 | cons t T a=>
   have e:(S.map λs=>f s*(((t::T).count s:Nat):Int))=S.map λs=>f s*((T.count s:Nat):Int)+f s*(if t=s then 1 else 0):=bD λs _=>by
    rw[List.count_cons,<-Int.mul_add];congr 1;by_cases h:t=s
    · subst h;simp
    simp [h]
   rw[e,Jv,VZ f c (h t az),bG,bL,a λu b=>h u (aB _ b)];omega
theorem val_add {α:Type} (D:List α) (g h:α->Nat):ly (D.map λd=>g d+h d)=ly (D.map g)+ly (D.map h):=by
 induction D with
 | nil=>rfl
 | cons d D a=>simp only [List.map_cons,ly,List.length_map,a,Nat.add_mul];omega
theorem val_one (m c:Nat) (h:c<=m):ly ((List.range m).map λd=>if d<c then 1 else 0)+2 ^ (m-c)=2 ^ m:=by
 induction m generalizing c with
 | zero=>obtain rfl:c=0:=ω
         rfl
 | succ m a=>
   rw[List.range_succ_eq_map,bG,jy,ly,i6,List.length_range];cases c with
   | zero=>
     have e:((List.range m).map ((λd=>if d<0 then 1 else 0) ∘ Nat.succ))=(List.range m).map λd=>if d<0 then 1 else 0:=bD λd _=>σ;rw[e,aa ω];have:=a 0 (aF _);rw[jz]at this⊢;omega
   | succ c=>
     have e:((List.range m).map ((λd=>if d<c+1 then 1 else 0) ∘ Nat.succ))=(List.range m).map λd=>if d<c then 1 else 0:=bD λd _=>by
      simp only [Function.comp,Nat.succ_eq_add_one];by_cases h:d<c
      · rw[ae ω,ae h]
      rw[aa ω,aa h]
     rw[e,ae ω,show m+1-(c+1)=m-c by omega,eB];have:=a c ω;omega
theorem val_zero (m:Nat):ly ((List.range m).map λ_=>0)=0:=by
 have:∀D:List Nat,ly (D.map λ_=>0)=0:=λD=>by
  induction D with
  | nil=>rfl
  | cons d D a=>rw[bG,ly,a];omega
 exact this _
theorem Qu (g:Int->Nat) (S:List Int) (h:∀s∈S,g s<=m):ly ((List.range m).map λd=>(S.filter λs=>decide (d<g s)).length)+(S.map λs=>2 ^ (m-g s)).sum=S.length*2 ^ m:=by
 induction S with
 | nil=>simp only [List.filter_nil,List.length_nil,List.map_nil,List.sum_nil];rw[val_zero];omega
 | cons s S a=>
   have e:(λd=>((s::S).filter λs=>decide (d<g s)).length)=λd=>(if d<g s then 1 else 0)+(S.filter λs=>decide (d<g s)).length:=by
    funext d
    rw[List.filter_cons];by_cases h:d<g s
    · simp [h];omega
    simp [h]
   rw[e,val_add,bG,bL,bc,dD];have c:=val_one m (g s) (h s az);have b:=a λt ht=>h t (aB _ ht);omega
theorem Ll {x:Int} {a:List Int} (h:(x::a).Pairwise λs t=>f s<=f t) (c:Nat) (b:c<=a.length):(((x::a).take c).map f).sum<=((a.take c).map f).sum:=by
 induction a generalizing x c with
 | nil=>obtain rfl:c=0:=by simpa using b
        simp
 | cons y g e=>
   cases c with
   | zero=>simp
   | succ c=>
     have d:=aR.1 h;rw[bM,bM,bG,bG,bL,bL];have:=e (x:=y) d.2 c (by simpa using b);have:=d.1 y az;omega
theorem EL (h:S.Pairwise λs t=>f s<=f t) (p:Int->Bool):((S.take (S.filter p).length).map f).sum<=((S.filter p).map f).sum:=by
 induction S with
 | nil=>exact df _
 | cons x a b=>
   have c:=aR.1 h;have d:=b c.2;rw[List.filter_cons];by_cases hp:p x=true
   · rw[ae hp,bc,bM,bG,bG,bL,bL];omega
   rw[aa hp];have:=Ll h (a.filter p).length (List.length_filter_le _ _);omega
theorem QV (v:Int):∀m c:Nat,c<=m->((List.range m).map λd=>if d<c then v else 0).sum=v*(c:Int):=by
 intro m;induction m with
 | zero=>intro c h;obtain rfl:c=0:=ω
         simp
 | succ m a=>
   intro c h;rw[jr,dt,fK];by_cases e:c=m+1
   · subst e
     have f:((List.range m).map λr=>if r<m+1 then v else 0)=(List.range m).map λr=>if r<m then v else 0:=bD λr b=>by
      have:=iy.1 b;rw[ae ω,ae ω]
     rw[f,a m (ag _)];simp only [List.map_cons,List.map_nil,List.sum_cons,List.sum_nil];rw[ae ω,gY,Int.mul_add];omega
   rw[a c ω];simp only [List.map_cons,List.map_nil,List.sum_cons,List.sum_nil];rw[aa ω];omega
theorem Me (f:Int->Int) (g:Int->Nat) (S:List Int) (h:∀s∈S,g s<=m):((List.range m).map λd=>((S.filter λs=>decide (d<g s)).map f).sum).sum=(S.map λs=>f s*(g s:Int)).sum:=by
 induction S with
 | nil=>
   have:∀D:List Nat,(D.map λ_=>(0:Int)).sum=0:=λD=>by
    induction D with
    | nil=>rfl
    | cons d D a=>rw[bG,bL,a];rfl
   simp only [List.filter_nil,List.map_nil,List.sum_nil];exact this _
 | cons s S a=>
   have e:(λd=>(((s::S).filter λs=>decide (d<g s)).map f).sum)=λd=>(if d<g s then f s else 0)+((S.filter λs=>decide (d<g s)).map f).sum:=by
    funext d
    rw[List.filter_cons];by_cases h:d<g s
    · simp [h]
    simp [h]
   rw[e,Jv,QV _ _ _ (h s az),a λt ht=>h t (aB _ ht),bG,bL]
structure a1H (f:Int->Int) (S:List Int) (m:Nat) (g:Int->Nat):Prop where
 out:∀s,s∉S->g s=0
 bd:∀s∈S,1<=g s/\g s<=m
 whole:(S.map λs=>2 ^ (m-g s)).sum=2 ^ m
 order:∀s∈S,∀t∈S,f s<f t->g t<=g s
 least:∀h:Int->Nat,(∀s∈S,h s<=m)->(S.map λs=>2 ^ (m-h s)).sum<=2 ^ m->(S.map λs=>f s*(g s:Int)).sum<=(S.map λs=>f s*(h s:Int)).sum
theorem xt (M:S.Nodup) (g:S.Pairwise λs t=>f s<=f t) (h0:∀s∈S,0<=f s) (h2:2<=S.length) (N:1<=m) (X:S.length<=2 ^ m):a1H f S m (rK f S m):=by
 have hF:=Fv g
 have E:∀p∈dO f S,0<=p.w:=λp hp=>by
  obtain⟨s,Z,Q,_⟩ :=kj p hp;rw[Q];exact h0 s Z
 obtain⟨K,rfl⟩ :∃K,m=K+1:= ⟨m-1,ω⟩;have z:=IM (F:=dO f S) (n:=2) (k:=K) (by rw[jf,eA,<-eB];exact X);rw[jf]at z;obtain⟨A,B,U,T,g3,R,g5, -⟩ :=Qi hF E K (2*S.length-2) ω;rw[jf]at T
 have P:(G5 f S (K+1)).Perm ((A::B).flatMap λb=>S.take b):=by
  have e:(λb=>rO ((dO f S).take b))=λb=>S.take b:=by funext b;rw[B6,Ts]
  rw[e]at R;exact R
 have c:∀r,r<S.length->rK f S (K+1) (ix S r)=pJ (A::B) r:=λr a=>by
  unfold rK;rw[P.count_eq,KA M a]
 have i:∀s∈S,∃r,r<S.length/\ix S r=s:=λs g=>by
  obtain⟨r,a,e⟩ :=List.getElem_of_mem g;exact⟨r,a,by simp [ix,a,e]⟩
 have C:∀s∈S,rK f S (K+1) s<=K+1:=λs g=>by
  obtain⟨r,a,rfl⟩ :=i s g;rw[c r a,<-U];exact N6 _ _
 have J:(S.map λs=>2 ^ (K+1-rK f S (K+1) s)).sum=2 ^ (K+1):=by
  have I:(S.map λs=>2 ^ (K+1-rK f S (K+1) s))=(List.range S.length).map λr=>2 ^ (K+1-pJ (A::B) r):=by
   have e0:∀G:Int->Nat,S.map G=(List.range S.length).map λr=>G (ix S r):=λG=>by
    conv=>lhs;rw[<-QB S,jy]
    rfl
   rw[e0];refine bD λr a=> ?_;rw[c r (iy.1 a)]
  have o:=sum_add (List.range S.length) (λr=>2 ^ (K+1-pJ (A::B) r)) (RV (A::B))
  have e3:(λr=>2 ^ (K+1-pJ (A::B) r)+RV (A::B) r)=λ_=>2 ^ (K+1):=by
   funext r
   have:=a3P (A::B) r g3;rw[U]at this;exact this
  have e4:((List.range S.length).map λ_=>2 ^ (K+1)).sum=S.length*2 ^ (K+1):=by
   have:=Eb S.length (2 ^ (K+1)) S.length (ag _);rw[<-this];congr 1;exact bD λr a=>by rw[ae (iy.1 a)]
  rw[e3,e4,a3Q _ _ T,g5]at o;rw[I];have H:2*S.length-2=2*(S.length-1):=ω;rw[H,fL,Nat.mul_left_comm,<-Nat.pow_succ',Nat.succ_eq_add_one]at o
  have e6:S.length*2 ^ (K+1)=(S.length-1)*2 ^ (K+1)+2 ^ (K+1):=by
   conv=>lhs;rw[show S.length=S.length-1+1 by omega,dD,Nat.one_mul]
  omega
 refine⟨λs g=> ?_,λs g=> ⟨?_,C s g⟩,J,λs g t ht v=> ?_,λh O hk=> ?_⟩
 · refine List.count_eq_zero_of_not_mem λN=>g ?_;obtain⟨b,_,j⟩ :=gJ.1 (P.mem_iff.1 N);exact aH j
 · rcases cS (rK f S (K+1) s)with h | h
   · exfalso
     have hp:=BN ((List.perm_cons_erase g).map λs=>2 ^ (K+1-rK f S (K+1) s));rw[bG,bL,h,J,jz]at hp
     have:=a4k ((S.erase s).map λs=>2 ^ (K+1-rK f S (K+1) s)) (λx V=>by
      obtain⟨t,_,rfl⟩ :=gF.1 V;exact ez _)
     rw[i6,List.length_erase_of_mem g]at this;have Q:(2:Nat) ^ (K+1)=2 ^ (K+1)+((S.erase s).map λs=>2 ^ (K+1-rK f S (K+1) s)).sum:=hp;omega
   exact h
 · obtain⟨r,a,rfl⟩ :=i s g;obtain⟨q,y,rfl⟩ :=i t ht;rw[c r a,c q y];refine OZ _ ?_;rcases aZ q r with h | h
   · exfalso
     have hp:=List.pairwise_iff_getElem.1 ‹S.Pairwise λs t=>f s<=f t› q r y a h;have I:ix S r=S[r]:=by simp [ix,a]
     have o:ix S q=S[q]:=by simp [ix,y]
     rw[I,o]at v;omega
   exact h
 obtain⟨D,hD⟩ :∃D,D=(List.range (K+1)).map λd=>(S.filter λs=>decide (d<h s)).length:= ⟨_,rfl⟩;have hv:=Qu h S O;rw[<-hD]at hv
 obtain⟨l1,l2⟩ :=Qj hF E K D (by rw[hD];simp) (λb j=>by
  rw[hD]at j;obtain⟨d,_,rfl⟩ :=gF.1 j;rw[jf];exact List.length_filter_le _ _)
 have Y:2*S.length-2<=ly D/2 ^ K:=by
  rw[Nat.le_div_iff_mul_le (ez _)]
  have H:(2*S.length-2)*2 ^ K=(S.length-1)*2 ^ (K+1):=by
   rw[show 2*S.length-2=2*(S.length-1) by omega,fL,Nat.mul_left_comm,<-Nat.pow_succ']
  have e6:S.length*2 ^ (K+1)=(S.length-1)*2 ^ (K+1)+2 ^ (K+1):=by
   conv=>lhs;rw[show S.length=S.length-1+1 by omega,dD,Nat.one_mul]
  rw[H];omega
 have L:=B8 f S K
 have vP:pD ((lev (dO f S) K).take (2*S.length-2))=(S.map λs=>f s*((rK f S (K+1) s:Nat):Int)).sum:=by
  rw[a0J f _ λp hp=>(L p (aH hp)).1];refine QW f M _ λt ht=> ?_;obtain⟨p,hp,u⟩ :=gJ.1 ht;exact(L p (aH hp)).2 t u
 have W:pD ((lev (dO f S) K).take (2*S.length-2))<=pD ((lev (dO f S) K).take (ly D/2 ^ K)):=by
  have e:(lev (dO f S) K).take (ly D/2 ^ K)=(lev (dO f S) K).take (2*S.length-2)++((lev (dO f S) K).take (ly D/2 ^ K)).drop (2*S.length-2):=by
   have:(lev (dO f S) K).take (2*S.length-2)=((lev (dO f S) K).take (ly D/2 ^ K)).take (2*S.length-2):=by rw[ft,bw Y]
   rw[this,aM]
  rw[e,kT];have:=C4 (l:=((lev (dO f S) K).take (ly D/2 ^ K)).drop (2*S.length-2)) λp hp=>uD E K p (aH (aX hp));omega
 have AX:(D.map λb=>pD ((dO f S).take b)).sum<=(S.map λs=>f s*(h s:Int)).sum:=by
  rw[<-Me f h S O,hD,jy];refine a0y _ _ _ λd _=> ?_;show pD ((dO f S).take (S.filter λs=>decide (d<h s)).length)<=_;rw[B6,X9];exact EL ‹_› _
 omega
end
def oY (a b:Int):Int:=if 0<a/\0<b/\b<=1048576/\a<=1048576 then a*b else 0
def eh (l f:List Int):Nat->Int
 | 0=>0
 | k+1=>eh l f k+oY (ix l k) (ix f k)
theorem CX (a b:Int):0<=oY a b/\oY a b<=1099511627776:=by
 unfold oY;split
 · rename_i h
   obtain⟨e,d,c,h4⟩ :=h;refine⟨Int.mul_nonneg ω ω, ?_⟩
   calc a*b<=1048576*1048576:=Int.mul_le_mul h4 c ω ω
    _=1099511627776:=by rfl
 omega
theorem mn (l f:List Int) (k:Nat) (b:k<=1000):0<=eh l f k/\eh l f k<=1099511627776*k:=by
 induction k with
 | zero=>simp [eh]
 | succ k a=>
   have d:=a ω;have c:=CX (ix l k) (ix f k);simp only [eh];omega
theorem ug {a b:Int} (e:0<a) (d:0<b) (c:b<=1048576) (h4:a<=1048576):oY a b=a*b:=by
 unfold oY;rw[ae ⟨e,d,c,h4⟩]
theorem tj {a b:Int} (h:¬(0<a/\0<b/\b<=1048576/\a<=1048576)):oY a b=0:=by
 unfold oY;rw[aa h]
def mM:List Int->Int
 | []=>0
 | b::l=>b+256*mM l
theorem a02 (l:List Int) (x:Int):mM (l++[x])=mM l+256 ^ l.length*x:=by
 induction l with
 | nil=>simp [mM]
 | cons b l a=>
   show b+256*mM (l++[x])=b+256*mM l+256 ^ (l.length+1)*x;rw[a,Int.mul_add,eP,eO (256 ^ l.length) 256,Int.mul_assoc];omega
theorem B5 {l:List Int} (h:∀x∈l,0<=x/\x<256):0<=mM l/\mM l<256 ^ l.length:=by
 induction l with
 | nil=>simp [mM]
 | cons b l a=>
   have e:=a λy c=>h y (aB _ c);have d:=h b (az ..);simp only [mM,List.length_cons,Int.pow_succ];omega
theorem gp {l:List Int} (h:∀x∈l,0<=x/\x<256) (i:Nat):0<=ix l i/\ix l i<256:=by
 unfold ix;rw[aq];cases hi:l[i]? with
 | none=>simp
 | some v=>exact h v (cQ hi)
theorem G4 {l:List Int} {k:Nat} (h:k<l.length):l.take (k+1)=l.take k++[ix l k]:=by
 rw[List.take_add_one];simp [ix,h]
def nz (l:List Int):Nat:=(l.takeWhile (· ≠0)).length
theorem nQ (x:Int) (l:List Int):nz (x::l)=if x=0 then 0 else nz l+1:=by
 unfold nz;by_cases h:x=0 <;> simp [h]
theorem a7M (l:List Int):nz l<=l.length:=by
 induction l with
 | nil=>simp [nz]
 | cons x l a=>rw[nQ];split <;> simp;omega
theorem a7O {l:List Int} {i:Nat} (h:i<nz l):ix l i≠0:=by
 induction l generalizing i with
 | nil=>simp [nz]at h
 | cons x l a=>
   rw[nQ]at h;split at h
   · omega
   cases i with
   | zero=>simpa [ix]
   | succ i=>exact a ω
theorem a7L {l:List Int} (h:nz l<l.length):ix l (nz l)=0:=by
 induction l with
 | nil=>simp [nz]at h
 | cons x l a=>
   rw[nQ]at h⊢;split
   · simpa [ix]
   rename_i b
   rw[aa b]at h;exact a (by simpa using h)
theorem VI {l:List Int} {k:Nat} (b:k<=l.length) (h:∀i,i<k->ix l i≠0):k<=nz l:=by
 rcases aZ (nz l) k with a | a
 · exact absurd (a7L ω) (h _ a)
 exact a
def nS (l:List Int) (a:Nat) (e:Int) (m:Nat):Int:=if e=0/\l.length-a<m then 5 else e
def wJ (l:List Int) (a:Nat) (e:Int) (m:Nat):Nat:=if nS l a e m=0 then a+m else a
def uQ (l:List Int) (a:Nat) (e:Int) (m:Nat):List Int:=if nS l a e m=0 then(l.drop a).take m else []
def O1 (l:List Int) (a:Nat) (e:Int):Int:=if nS l a e 1=0 then ix l a else 0
def Gx (l:List Int) (a:Nat) (e c:Int):Int:=if nS l a e 1=0/\ix l a≠c then 2 else nS l a e 1
def qV (r:List Int):List Int×Nat×Int:=
 if nz r<r.length/\nz r<=4096 then(r.take (nz r),nz r+1,0)else if 4096<r.length then([],0,2)else([],0,5)
def JH (l:List Int) (a:Nat) (e:Int):Int:=if e=0 then(qV (l.drop a)).2.2 else e
def R9 (l:List Int) (a:Nat) (e:Int):Nat:=if e=0 then a+(qV (l.drop a)).2.1 else a
def X0 (l:List Int) (a:Nat) (e:Int):List Int:=if e=0 then(qV (l.drop a)).1 else []
def Yx (e f:Int):Int:=if e=0/\31<f then 2 else e
def b1 (l:List Int):Nat:=wJ l 0 0 1
def q1 (l:List Int):Int:=Gx l 0 0 31
def b2 (l:List Int):Nat:=wJ l (b1 l) (q1 l) 1
def q2 (l:List Int):Int:=Gx l (b1 l) (q1 l) 139
def b3 (l:List Int):Nat:=wJ l (b2 l) (q2 l) 1
def q3 (l:List Int):Int:=Gx l (b2 l) (q2 l) 8
def fB (l:List Int):Int:=O1 l (b3 l) (q3 l)
def b4 (l:List Int):Nat:=wJ l (b3 l) (q3 l) 1
def q4 (l:List Int):Int:=Yx (nS l (b3 l) (q3 l) 1) (fB l)
def WS (l:List Int):Int:=mM (uQ l (b4 l) (q4 l) 4)
def b5 (l:List Int):Nat:=wJ l (b4 l) (q4 l) 4
def q5 (l:List Int):Int:=nS l (b4 l) (q4 l) 4
def Tr (l:List Int):Int:=O1 l (b5 l) (q5 l)
def b6 (l:List Int):Nat:=wJ l (b5 l) (q5 l) 1
def q6 (l:List Int):Int:=nS l (b5 l) (q5 l) 1
def XH (l:List Int):Int:=O1 l (b6 l) (q6 l)
def b7 (l:List Int):Nat:=wJ l (b6 l) (q6 l) 1
def q7 (l:List Int):Int:=nS l (b6 l) (q6 l) 1
def Oo (l:List Int):Int:=mM (uQ l (b7 l) (q7 l) 2)
def b8 (l:List Int):Nat:=wJ l (b7 l) (q7 l) 2
def q8 (l:List Int):Int:=nS l (b7 l) (q7 l) 2
def bit (f k:Int):Bool:=decide (f/k%2=1)
def yy (l:List Int):List Int:=if bit (fB l) 4 then uQ l (b8 l) (q8 l) (Oo l).toNat else []
def b9 (l:List Int):Nat:=if bit (fB l) 4 then wJ l (b8 l) (q8 l) (Oo l).toNat else b7 l
def q9 (l:List Int):Int:=if bit (fB l) 4 then nS l (b8 l) (q8 l) (Oo l).toNat else q7 l
def ya (l:List Int):List Int:=if bit (fB l) 8 then X0 l (b9 l) (q9 l)else []
def tQ (l:List Int):Nat:=if bit (fB l) 8 then R9 l (b9 l) (q9 l)else b9 l
def uK (l:List Int):Int:=if bit (fB l) 8 then JH l (b9 l) (q9 l)else q9 l
def CU (l:List Int):List Int:=if bit (fB l) 16 then X0 l (tQ l) (uK l)else []
def lZ (l:List Int):Nat:=if bit (fB l) 16 then R9 l (tQ l) (uK l)else tQ l
def rz (l:List Int):Int:=if bit (fB l) 16 then JH l (tQ l) (uK l)else uK l
theorem a42 {l:List Int} (h:∀x∈l,0<=x/\x<256) (a:Nat) (e:Int):0<=O1 l a e/\O1 l a e<256:=by
 unfold O1;split
 · exact gp h a
 omega
theorem G6 {l:List Int} (h:∀x∈l,0<=x/\x<256) (a:Nat) (e:Int) (m:Nat):∀x∈uQ l a e m,0<=x/\x<256:=by
 unfold uQ;split
 · exact λx b=>h x (aX (aH b))
 exact λx b=>by cases b
theorem BQ (l:List Int) (a:Nat) (e:Int) (m:Nat):(uQ l a e m).length<=m:=by
 unfold uQ;split
 · rw[aA];omega
 simp
theorem ox {l:List Int} {a:Nat} {e:Int} {m:Nat} (h:nS l a e m=0):e=0/\(m<=l.length-a):=by
 unfold nS at h;split at h
 · omega
 rename_i b
 exact⟨h,ω⟩
theorem WZ {l:List Int} {a:Nat} {e:Int} (h:JH l a e=0):e=0:=by
 unfold JH at h;split at h
 · assumption
 exact h
theorem W9 {l:List Int} (h:q7 l=0):0<l.length:=by
 have h6:=(ox h).1;have h5:=(ox (show nS l (b5 l) (q5 l) 1=0 from h6)).1;have h4:q4 l=0:=(ox (show nS l (b4 l) (q4 l) 4=0 from h5)).1
 have a:nS l (b3 l) (q3 l) 1=0:=by
  unfold q4 Yx at h4;split at h4
  · omega
  exact h4
 have:=(ox a).2;omega
theorem Mk {l:List Int} (h:q9 l=0):0<l.length:=by
 unfold q9 at h;split at h
 · exact W9 (ox (show nS l (b7 l) (q7 l) 2=0 from(ox h).1)).1
 exact W9 h
theorem a0m {l:List Int} (h:uK l=0):0<l.length:=by
 unfold uK at h;split at h
 · exact Mk (WZ h)
 exact Mk h
open Go.RowKit
def iI (m:Nat) (f:Nat->Value):Array Value:=((List.range m).map f).toArray
theorem jc (m:Nat) (f:Nat->Value):(iI m f).size=m:=by simp [iI]
theorem SD {m i:Nat} (f:Nat->Value) (h:i<m):(iI m f)[i]?=some (f i):=by simp [iI,h]
theorem oH {m:Nat} {f f':Nat->Value} (h:∀i,i<m->f i=f' i):iI m f=iI m f':=by
 unfold iI;congr 1
 apply bD
 intro i hi;exact h i (by simpa using hi)
theorem OO (m:Nat) (f:Nat->Value) (i:Nat) (u:Value):(iI m f).setIfInBounds i u=iI m (upd f i u):=by
 apply Array.ext
 · simp [iI]
 intro j c b;have a:j<m:=by simpa [iI] using b
 rw[Array.getElem_setIfInBounds (by simpa [iI] using a)];by_cases e:i=j
 · subst e;simp [iI,upd]
 rw[aa e];simp [iI,upd];intro h;exact absurd h.symm e
def qc (w:World) (g:Nat) (t:TypeId) (m:Nat) (f:Nat->Value):Prop:=w.heap[g]?=some (.cells (iI m f) t (0,0))
section
variable {w w':World} {g m:Nat} {t:TypeId} {f:Nat->Value}
theorem qc.ar (h:qc w g t m f):Ar w g m f:= ⟨_,t,(0,0),h, .inr rfl,by rw[jc];exact ag _,λi hi=>SD f hi⟩
theorem qc.lt (h:qc w g t m f):g<w.heap.size:=fW h
theorem qc.cell (h:qc w g t m f) {i:Nat} (hi:i<m):w.cell? ⟨g,i,none⟩ =some (f i):=h.ar.cell hi
theorem qc.frozen (h:qc w g t m f) (i:Nat):w.frozen? ⟨g,i,none⟩ =false:=by
 unfold qc at h;simp [World.frozen?,h]
theorem qc.same (h:qc w g t m f) (a:w'.heap[g]?=w.heap[g]?):qc w' g t m f:=a.trans h
theorem qc.alloc (h:qc w g t m f) (o:Obj):qc (w.alloc o) g t m f:=h.same (eI w o g h.lt)
theorem qc.far (h:qc w g t m f) {p:Addr} (hp:g≠p.block) (u:Value):qc (w.setCell p u) g t m f:=h.same (cR w p u g hp)
theorem qc.congr {f':Nat->Value} (h:qc w g t m f) (hf:∀i,i<m->f i=f' i):qc w g t m f':=by
 unfold qc at*;rw[h,oH hf]
theorem qc.bC (h:qc w g t m f) (i:Nat) (u:Value):qc (w.setCell ⟨g,i,none⟩ u) g t m (upd f i u):=by
 unfold qc at*;rw[<-OO];simp [World.setCell,Array.getElem?_modify,h]
theorem qc.new {g:Nat} (a:g=w.heap.size) (cs:Array Value) (t:TypeId) (h:cs=iI m f):qc (w.alloc (.cells cs t)) g t m f:=by
 subst a;subst h;exact dr w _
theorem qc.row (h:qc w g t m f) (a:Nat) (f':Nat->Value):qc (w.setRow g (iI a f')) g t a f':=setRow_heap w g _ _ t (0,0) h
theorem vq {B:Nat} {a:World} (h:Below B a w) (c:B<=g) (cs:Array Value):Below B a (w.setRow g cs):=
 h.trans ⟨rfl,rfl,rfl,σ,λk b=>setRow_other w g k cs ω⟩
end
theorem CQ (m:Nat) (f:Nat->Value) (h:∀i,i<m->(f i).oneCell'=true):(iI m f).all (·.oneCell')=true:=by
 rw[Array.all_eq_true_iff_forall_mem];intro v hv;simp [iI]at hv;obtain⟨i,hi,rfl⟩ :=hv;exact h i hi
def W6:Nat:=3988292384
def Mz (x:Nat):Nat:=if x%2=1 then(x/2) ^^^ W6 else x/2
def wj:Nat->Nat->Nat
 | 0,x=>x
 | k+1,x=>Mz (wj k x)
theorem a0x (a b:Nat):Mz (a ^^^ b)=Mz a ^^^ Mz b:=by
 unfold Mz;rw[Nat.xor_div_two];have e:(a ^^^ b)%2=1↔¬(a%2=1↔b%2=1):=Nat.xor_mod_two_eq_one;by_cases d:a%2=1 <;> by_cases c:b%2=1
 · rw[aa (by rw[e];simp [d,c]),ae d,ae c]
   apply gA
   intro i;simp only [Nat.testBit_xor];cases (a/2).testBit i <;> cases (b/2).testBit i <;> cases W6.testBit i <;> rfl
 · rw[ae (by rw[e];simp [d,c]),ae d,aa c]
   apply gA
   intro i;simp only [Nat.testBit_xor];cases (a/2).testBit i <;> cases (b/2).testBit i <;> cases W6.testBit i <;> rfl
 · rw[ae (by rw[e];simp [d,c]),aa d,ae c]
   apply gA
   intro i;simp only [Nat.testBit_xor];cases (a/2).testBit i <;> cases (b/2).testBit i <;> cases W6.testBit i <;> rfl
 rw[aa (by rw[e];simp [d,c]),aa d,aa c]
theorem WC (k a b:Nat):wj k (a ^^^ b)=wj k a ^^^ wj k b:=by
 induction k with
 | zero=>rfl
 | succ k c=>simp only [wj,c,a0x]
theorem WE (q:Nat):Mz (2*q)=q:=by unfold Mz;rw[aa ω];omega
theorem QU (k q:Nat):wj k (2 ^ k*q)=q:=by
 induction k generalizing q with
 | zero=>simp [wj]
 | succ k a=>
   have e:2 ^ (k+1)*q=2 ^ k*(2*q):=by rw[eB,fL]
   simp only [wj];rw[e,a,WE]
theorem WG {x:Nat} (h:x<4294967296):Mz x<4294967296:=by
 unfold Mz;split
 · exact Nat.xor_lt_two_pow (n:=32) ω (by unfold W6;omega)
 omega
theorem a0w {x:Nat} (h:x<4294967296) (k:Nat):wj k x<4294967296:=by
 induction k with
 | zero=>exact h
 | succ k a=>exact WG a
theorem Vv (x c:Nat) (b:c<256):x ^^^ c=((x%256) ^^^ c) ^^^ (256*(x/256)):=by
 apply gA
 intro i;simp only [Nat.testBit_xor];have f:(x%256).testBit i=(decide (i<8)&&x.testBit i):=Nat.testBit_mod_two_pow x 8 i
 have d:(256*(x/256)).testBit i=(decide (8<=i)&&x.testBit i):=by
  have:(2 ^ 8*(x/256)).testBit i=(decide (i≥8)&&(x/256).testBit (i-8)):=Nat.testBit_two_pow_mul;rw[show(2:Nat) ^ 8=256 from rfl]at this;rw[this];by_cases h:8<=i
  · have e:(x/256).testBit (i-8)=x.testBit i:=by
     have:(x/2 ^ 8).testBit (i-8)=x.testBit (8+(i-8)):=by rw[Nat.testBit_div_two_pow,Nat.add_comm]
     rw[show(2:Nat) ^ 8=256 from rfl]at this;rw[this];congr 1;omega
    rw[e]
  simp [h]
 rw[f,d];by_cases h:i<8
 · have h':¬8<=i:=ω;simp [h,h']
 have h':8<=i:=ω;have a:c.testBit i=false:=fG (aD b (bq (n:=2) ω h'));simp [h,h',a]
theorem OX (x c:Nat) (a:c<256):wj 8 ((x%256) ^^^ c) ^^^ (x/256)=wj 8 (x ^^^ c):=by
 rw[Vv x c a,WC 8 ((x%256) ^^^ c),show 256*(x/256)=2 ^ 8*(x/256) from rfl,QU]
def BJ (x:Int):Int:=(Mz x.toNat:Nat)
def mX (k:Nat) (x:Int):Int:=(wj k x.toNat:Nat)
def qX (a b:Int):Int:=(a.toNat ^^^ b.toNat:Nat)
def se (x c:Int):Int:=mX 8 (qX x c)
def lW (x:Int) (l:List Int):Nat->Int
 | 0=>x
 | k+1=>se (lW x l k) (ix l k)
theorem BL {x:Int} (h:0<=x):mX 0 x=x:=by unfold mX wj;omega
theorem BK (k:Nat) (x:Int):mX (k+1) x=BJ (mX k x):=by unfold BJ mX;simp [wj]
theorem Ju (k:Nat) {x:Int} (h:0<=x/\x<4294967296):0<=mX k x/\mX k x<4294967296:=by
 unfold mX;have:=a0w (x:=x.toNat) ω k;omega
theorem Ol {x:Int} (h:0<=x/\x<4294967296):0<=BJ x/\BJ x<4294967296:=by
 unfold BJ;have:=WG (x:=x.toNat) ω;omega
theorem Gg {a b:Int} (h:0<=a/\a<4294967296) (h':0<=b/\b<4294967296):0<=qX a b/\qX a b<4294967296:=by
 unfold qX;have:=Nat.xor_lt_two_pow (x:=a.toNat) (y:=b.toNat) (n:=32) ω ω;omega
theorem Xb {a b:Int} (h:0<=a/\a<256) (h':0<=b/\b<256):0<=qX a b/\qX a b<256:=by
 unfold qX;have:=Nat.xor_lt_two_pow (x:=a.toNat) (y:=b.toNat) (n:=8) ω ω;omega
theorem CY {x c:Int} (h:0<=x/\x<4294967296) (h':0<=c/\c<256):0<=se x c/\se x c<4294967296:=
 Ju 8 (Gg h ω)
theorem tq {x:Int} {l:List Int} (h:0<=x/\x<4294967296) (b:∀i,0<=ix l i/\ix l i<256) (k:Nat):0<=lW x l k/\lW x l k<4294967296:=by
 induction k with
 | zero=>exact h
 | succ k a=>exact CY a (b k)
theorem MC {x c:Int} (h:0<=x/\x<4294967296) (h':0<=c/\c<256):qX (mX 8 (qX (x%256) c)) (x/256)=se x c:=by
 unfold se qX mX;simp only [Int.toNat_natCast];have b:(x%256).toNat=x.toNat%256:=ω;have a:(x/256).toNat=x.toNat/256:=ω;rw[b,a,OX _ _ ω]
theorem jw (w:World) (o:Obj):(w.alloc o).heap.size=w.heap.size+1:=σ
end Go.Proofs.YtdhmnlpfhfmpfaaGreat
