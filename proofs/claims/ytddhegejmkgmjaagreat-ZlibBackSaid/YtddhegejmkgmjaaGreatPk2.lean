/-
  part
-/
import Derived.Test.YtddhegejmkgmjaaGreatPk1
set_option linter.unusedVariables false
set_option maxRecDepth 100000
set_option maxHeartbeats 4000000
namespace Go.Proofs.YtddhegejmkgmjaaGreat
def bj (f:Int->Int) (S:List Int):List Pk:=S.map λs=> ⟨f s,[s]⟩
def Ba (f:Int->Int) (S:List Int) (m:Nat):List Int:=mF ((lev (bj f S) (m-1)).take (2*S.length-2))
def lL (f:Int->Int) (S:List Int) (m:Nat) (s:Int):Nat:=(Ba f S m).count s
def kD:List Nat->Nat->Nat
 | [],_=>0
 | b::B,r=>(if r<b then 1 else 0)+kD B r
def LG:List Nat->Nat->Nat
 | [],_=>0
 | b::B,r=>(if r<b then 2 ^ B.length else 0)+LG B r
section
variable {f:Int->Int} {S:List Int} {m n:Nat}
theorem MO (f:Int->Int) (S:List Int):mF (bj f S)=S:=by
 induction S with
 | nil=>rfl
 | cons s S a=>rw[bj,List.map_cons,mW];show [s]++mF (bj f S)=_;rw[a];rfl
theorem PU (f:Int->Int) (S:List Int):ky (bj f S)=(S.map f).sum:=by
 induction S with
 | nil=>rfl
 | cons s S a=>rw[bj,List.map_cons,dw];show f s+ky (bj f S)=_;rw[a];simp
theorem uU (f:Int->Int) (S:List Int) (b:Nat):(bj f S).take b=bj f (S.take b):=by unfold bj;rw[List.map_take]
theorem ei (f:Int->Int) (S:List Int):(bj f S).length=S.length:=by simp [bj]
theorem Au (h:S.Pairwise λs t=>f s<=f t):EJ (bj f S):=by
 unfold EJ bj;rw[List.pairwise_map];exact h
theorem fx:∀p∈bj f S,∃s∈S,p.w=f s/\p.l=[s]:=λp hp=>by
 obtain⟨s,a,rfl⟩ :=List.mem_map.1 hp;exact⟨s,a,rfl,rfl⟩
theorem Yd (l:List Nat) (h:∀x∈l,1<=x):l.length<=l.sum:=by
 induction l with
 | nil=>exact Nat.le_refl _
 | cons x l a=>
   have:=h x List.mem_cons_self;have:=a λy b=>h y (List.mem_cons_of_mem _ b)
   simp only [List.length_cons,List.sum_cons];omega
theorem qG {a b:List Nat} (h:a.Perm b):a.sum=b.sum:=by
 induction h with
 | nil=>rfl
 | cons x _ ih=>rw[List.sum_cons,List.sum_cons,ih]
 | swap x y l=>simp only [List.sum_cons];omega
 | trans _ _ h1 h2=>exact h1.trans h2
theorem oq {a b:List Int} (h:a.Perm b):a.sum=b.sum:=by
 induction h with
 | nil=>rfl
 | cons x _ ih=>rw[List.sum_cons,List.sum_cons,ih]
 | swap x y l=>simp only [List.sum_cons];omega
 | trans _ _ h1 h2=>exact h1.trans h2
theorem KF (S:List Int):(List.range S.length).map (ix S)=S:=by
 apply List.ext_getElem
 · simp
 · intro i b a;simp [ix,a]
theorem yo (b c:Nat):∀n,b<=n->((List.range n).map λr=>if r<b then c else 0).sum=b*c:=by
 intro n
 induction n generalizing b with
 | zero=>intro h;obtain rfl:b=0:=ω
         simp
 | succ n a=>
   intro h;rw[List.range_succ,List.map_append,List.sum_append];by_cases e:b=n+1
   · subst e
     have f:((List.range n).map λr=>if r<n+1 then c else 0)=(List.range n).map λr=>if r<n then c else 0:=List.map_congr_left λr d=>by
      have:=List.mem_range.1 d;rw[if_pos ω,if_pos ω]
     rw[f,a n (Nat.le_refl _)];simp [Nat.add_mul]
   · rw[a b ω];simp only [List.map_cons,List.map_nil,List.sum_cons,List.sum_nil];rw[if_neg ω];omega
theorem sum_add {α:Type} (l:List α) (g h:α->Nat):(l.map λx=>g x+h x).sum=(l.map g).sum+(l.map h).sum:=by
 induction l with
 | nil=>rfl
 | cons x l a=>simp only [List.map_cons,List.sum_cons,a];omega
theorem DV {α:Type} (l:List α) (g h:α->Int):(l.map λx=>g x+h x).sum=(l.map g).sum+(l.map h).sum:=by
 induction l with
 | nil=>rfl
 | cons x l a=>simp only [List.map_cons,List.sum_cons,a];omega
theorem Ta {α:Type} (l:List α) (g h:α->Int) (H:∀x∈l,g x<=h x):(l.map g).sum<=(l.map h).sum:=by
 induction l with
 | nil=>exact Int.le_refl _
 | cons x l a=>
   simp only [List.map_cons,List.sum_cons];have:=H x List.mem_cons_self;have:=a λy b=>H y (List.mem_cons_of_mem _ b)
   omega
theorem XS (B:List Nat) (n:Nat) (h:∀b∈B,b<=n):((List.range n).map (LG B)).sum=gJ B:=by
 induction B with
 | nil=>simp only [LG,gJ];induction n with
        | zero=>rfl
        | succ n a=>rw[List.range_succ,List.map_append,List.sum_append,a σ];rfl
 | cons b B a=>
   have e:(LG (b::B))=λr=>(if r<b then 2 ^ B.length else 0)+LG B r:=by funext r;rfl
   rw[e,sum_add,yo _ _ _ (h b List.mem_cons_self),gJ,a λc d=>h c (List.mem_cons_of_mem _ d)]
theorem Ms (B:List Nat) (r:Nat) (h:∀b∈B,b<=r):kD B r=0/\LG B r=0:=by
 induction B with
 | nil=>exact⟨rfl,rfl⟩
 | cons b B a=>
   have:=h b List.mem_cons_self;obtain⟨f,e⟩ :=a λc d=>h c (List.mem_cons_of_mem _ d)
   rw[kD,LG,if_neg ω,if_neg ω,f,e];exact⟨rfl,rfl⟩
theorem Hx (B:List Nat) (r:Nat):kD B r<=B.length:=by
 induction B with
 | nil=>exact Nat.le_refl _
 | cons b B a=>rw[kD,List.length_cons];split <;> omega
theorem Jm (B:List Nat) {r a:Nat} (h:r<=a):kD B a<=kD B r:=by
 induction B with
 | nil=>exact Nat.le_refl _
 | cons b B d=>
   rw[kD,kD];by_cases c:a<b
   · rw[if_pos c,if_pos ω];omega
   · rw[if_neg c];split <;> omega
theorem XR (B:List Nat) (r:Nat) (i:B.Pairwise λc d=>d<=c):2 ^ (B.length-kD B r)+LG B r=2 ^ B.length:=by
 induction B with
 | nil=>rfl
 | cons b B g=>
   obtain⟨k,j⟩ :=List.pairwise_cons.1 i;have a:=Hx B r;by_cases h:r<b
   · rw[kD,LG,if_pos h,if_pos h,List.length_cons,show B.length+1-(1+kD B r)=B.length-kD B r by omega,Nat.pow_succ];have:=g j;omega
   · obtain⟨f,e⟩ :=Ms B r λc a=>by have:=k c a;omega
     rw[kD,LG,if_neg h,if_neg h,f,e];rfl
theorem lJ {S:List Int} {r:Nat} (a:r<S.length):ix S r∈S:=by
 have:ix S r=S[r]:=by simp [ix,a]
 rw[this];exact List.getElem_mem a
theorem F6 (j:S.Nodup) {r:Nat} (f:r<S.length) (b:Nat):(S.take b).count (ix S r)=if r<b then 1 else 0:=by
 induction S generalizing r b with
 | nil=>simp at f
 | cons x a i=>
   obtain⟨g,k⟩ :=List.nodup_cons.1 j;cases b with
   | zero=>simp
   | succ b=>
     rw[List.take_succ_cons,List.count_cons];cases r with
     | zero=>
       have e:ix (x::a) 0=x:=rfl;rw[e,List.count_eq_zero_of_not_mem λh=>g (List.mem_of_mem_take h)];simp
     | succ r=>
       have c:r<a.length:=by simpa using f
       have e:ix (x::a) (r+1)=ix a r:=rfl;have d:x≠ix a r:=λh=>g (by rw[h];exact lJ c)
       rw[e,i k c];simp [d]
theorem F5 (d:S.Nodup) {r:Nat} (c:r<S.length) (B:List Nat):(B.flatMap λb=>S.take b).count (ix S r)=kD B r:=by
 induction B with
 | nil=>rfl
 | cons b B a=>rw[List.flatMap_cons,List.count_append,a,F6 d c,kD]
theorem uW (f:Int->Int) (S:List Int) (k:Nat):∀p∈lev (bj f S) k,p.w=(p.l.map f).sum/\∀s∈p.l,s∈S:=by
 have e:∀p∈bj f S,p.w=(p.l.map f).sum/\∀s∈p.l,s∈S:=λp hp=>by
  obtain⟨s,a,j,i⟩ :=fx p hp;rw[j,i];refine⟨σ,λt ht=> ?_⟩;rw[List.mem_singleton.1 ht];exact a
 induction k with
 | zero=>exact e
 | succ k b=>
   intro p hp;rcases List.mem_append.1 ((kN _ _).mem_iff.1 hp)with h | h
   · exact e p h
   · obtain⟨c,g,d,hd,n,m⟩ :=od _ p h;obtain⟨c1,c2⟩ :=b c g;obtain⟨d1,d2⟩ :=b d hd;rw[n,m,c1,d1];refine⟨σ,λs a=> ?_⟩;rcases List.mem_append.1 a with h | h
     · exact c2 s h
     · exact d2 s h
theorem Ti (f:Int->Int) (l:List Pk) (h:∀p∈l,p.w=(p.l.map f).sum):ky l=((mF l).map f).sum:=by
 induction l with
 | nil=>rfl
 | cons p l a=>rw[dw,mW,List.map_append,List.sum_append,h p List.mem_cons_self,a λq b=>h q (List.mem_cons_of_mem _ b)]
theorem P7 (f:Int->Int) {t:Int} (g:S.Nodup) (ht:t∈S):(S.map λs=>f s*(if t=s then 1 else 0)).sum=f t:=by
 induction S with
 | nil=>simp at ht
 | cons s S a=>
   obtain⟨k,j⟩ :=List.nodup_cons.1 g;rw[List.map_cons,List.sum_cons];by_cases e:t=s
   · subst e
     have c:(S.map λs=>f s*(if t=s then 1 else 0))=S.map λ_=>(0:Int):=List.map_congr_left λu d=>by
      rw[if_neg (λm=>k (by rw[m];exact d)),Int.mul_zero]
     have b:∀l:List Int,(l.map λ_=>(0:Int)).sum=0:=λl=>by induction l with
      | nil=>rfl
      | cons x l a=>rw[List.map_cons,List.sum_cons,a];rfl
     rw[c,b,if_pos rfl];omega
   · have i:t∈S:=by
      rcases List.mem_cons.1 ht with h | h
      · exact absurd h e
      · exact h
     rw[a j i,if_neg e];omega
theorem KX (f:Int->Int) (c:S.Nodup) (T:List Int) (h:∀t∈T,t∈S):(T.map f).sum=(S.map λs=>f s*((T.count s:Nat):Int)).sum:=by
 induction T with
 | nil=>
   have:∀l:List Int,(l.map λs=>f s*((([]:List Int).count s:Nat):Int)).sum=0:=λl=>by
    induction l with
    | nil=>rfl
    | cons x l a=>rw[List.map_cons,List.sum_cons,a];simp
   rw[this];rfl
 | cons t T a=>
   have e:(S.map λs=>f s*(((t::T).count s:Nat):Int))=S.map λs=>f s*((T.count s:Nat):Int)+f s*(if t=s then 1 else 0):=List.map_congr_left λs _=>by
    rw[List.count_cons,<-Int.mul_add];congr 1;by_cases h:t=s
    · subst h;simp
    · simp [h]
   rw[e,DV,P7 f c (h t List.mem_cons_self),List.map_cons,List.sum_cons,a λu b=>h u (List.mem_cons_of_mem _ b)];omega
theorem val_add {α:Type} (D:List α) (g h:α->Nat):gJ (D.map λd=>g d+h d)=gJ (D.map g)+gJ (D.map h):=by
 induction D with
 | nil=>rfl
 | cons d D a=>simp only [List.map_cons,gJ,List.length_map,a,Nat.add_mul];omega
theorem val_one (m c:Nat) (h:c<=m):gJ ((List.range m).map λd=>if d<c then 1 else 0)+2 ^ (m-c)=2 ^ m:=by
 induction m generalizing c with
 | zero=>obtain rfl:c=0:=ω
         rfl
 | succ m a=>
   rw[List.range_succ_eq_map,List.map_cons,List.map_map,gJ,List.length_map,List.length_range];cases c with
   | zero=>
     have e:((List.range m).map ((λd=>if d<0 then 1 else 0) ∘ Nat.succ))=(List.range m).map λd=>if d<0 then 1 else 0:=List.map_congr_left λd _=>σ
     rw[e,if_neg ω];have:=a 0 (Nat.zero_le _);rw[Nat.sub_zero]at this⊢;omega
   | succ c=>
     have e:((List.range m).map ((λd=>if d<c+1 then 1 else 0) ∘ Nat.succ))=(List.range m).map λd=>if d<c then 1 else 0:=List.map_congr_left λd _=>by
      simp only [Function.comp,Nat.succ_eq_add_one];by_cases h:d<c
      · rw[if_pos ω,if_pos h]
      · rw[if_neg ω,if_neg h]
     rw[e,if_pos ω,show m+1-(c+1)=m-c by omega,Nat.pow_succ];have:=a c ω;omega
theorem val_zero (m:Nat):gJ ((List.range m).map λ_=>0)=0:=by
 have:∀D:List Nat,gJ (D.map λ_=>0)=0:=λD=>by
  induction D with
  | nil=>rfl
  | cons d D a=>rw[List.map_cons,gJ,a];omega
 exact this _
theorem Ky (g:Int->Nat) (S:List Int) (h:∀s∈S,g s<=m):gJ ((List.range m).map λd=>(S.filter λs=>decide (d<g s)).length)+(S.map λs=>2 ^ (m-g s)).sum=S.length*2 ^ m:=by
 induction S with
 | nil=>simp only [List.filter_nil,List.length_nil,List.map_nil,List.sum_nil];rw[val_zero];omega
 | cons s S a=>
   have e:(λd=>((s::S).filter λs=>decide (d<g s)).length)=λd=>(if d<g s then 1 else 0)+(S.filter λs=>decide (d<g s)).length:=by
    funext d
    rw[List.filter_cons];by_cases h:d<g s
    · simp [h];omega
    · simp [h]
   rw[e,val_add,List.map_cons,List.sum_cons,List.length_cons,Nat.add_mul];have c:=val_one m (g s) (h s List.mem_cons_self);have b:=a λt ht=>h t (List.mem_cons_of_mem _ ht)
   omega
theorem FQ {x:Int} {a:List Int} (h:(x::a).Pairwise λs t=>f s<=f t) (c:Nat) (b:c<=a.length):(((x::a).take c).map f).sum<=((a.take c).map f).sum:=by
 induction a generalizing x c with
 | nil=>obtain rfl:c=0:=by simpa using b
        simp
 | cons y g e=>
   cases c with
   | zero=>simp
   | succ c=>
     have d:=List.pairwise_cons.1 h;rw[List.take_succ_cons,List.take_succ_cons,List.map_cons,List.map_cons,List.sum_cons,List.sum_cons];have:=e (x:=y) d.2 c (by simpa using b);have:=d.1 y List.mem_cons_self;omega
theorem zg (h:S.Pairwise λs t=>f s<=f t) (p:Int->Bool):((S.take (S.filter p).length).map f).sum<=((S.filter p).map f).sum:=by
 induction S with
 | nil=>exact Int.le_refl _
 | cons x a b=>
   have c:=List.pairwise_cons.1 h;have d:=b c.2;rw[List.filter_cons];by_cases hp:p x=true
   · rw[if_pos hp,List.length_cons,List.take_succ_cons,List.map_cons,List.map_cons,List.sum_cons,List.sum_cons];omega
   · rw[if_neg hp];have:=FQ h (a.filter p).length (List.length_filter_le _ _);omega
theorem KW (v:Int):∀m c:Nat,c<=m->((List.range m).map λd=>if d<c then v else 0).sum=v*(c:Int):=by
 intro m
 induction m with
 | zero=>intro c h;obtain rfl:c=0:=ω
         simp
 | succ m a=>
   intro c h;rw[List.range_succ,List.map_append,List.sum_append];by_cases e:c=m+1
   · subst e
     have f:((List.range m).map λr=>if r<m+1 then v else 0)=(List.range m).map λr=>if r<m then v else 0:=List.map_congr_left λr b=>by
      have:=List.mem_range.1 b;rw[if_pos ω,if_pos ω]
     rw[f,a m (Nat.le_refl _)];simp only [List.map_cons,List.map_nil,List.sum_cons,List.sum_nil];rw[if_pos ω,Int.natCast_add,Int.mul_add];omega
   · rw[a c ω];simp only [List.map_cons,List.map_nil,List.sum_cons,List.sum_nil];rw[if_neg ω];omega
theorem Gu (f:Int->Int) (g:Int->Nat) (S:List Int) (h:∀s∈S,g s<=m):((List.range m).map λd=>((S.filter λs=>decide (d<g s)).map f).sum).sum=(S.map λs=>f s*(g s:Int)).sum:=by
 induction S with
 | nil=>
   have:∀D:List Nat,(D.map λ_=>(0:Int)).sum=0:=λD=>by
    induction D with
    | nil=>rfl
    | cons d D a=>rw[List.map_cons,List.sum_cons,a];rfl
   simp only [List.filter_nil,List.map_nil,List.sum_nil];exact this _
 | cons s S a=>
   have e:(λd=>(((s::S).filter λs=>decide (d<g s)).map f).sum)=λd=>(if d<g s then f s else 0)+((S.filter λs=>decide (d<g s)).map f).sum:=by
    funext d
    rw[List.filter_cons];by_cases h:d<g s
    · simp [h]
    · simp [h]
   rw[e,DV,KW _ _ _ (h s List.mem_cons_self),a λt ht=>h t (List.mem_cons_of_mem _ ht),List.map_cons,List.sum_cons]
structure Vr (f:Int->Int) (S:List Int) (m:Nat) (g:Int->Nat):Prop where
 out:∀s,s∉S->g s=0
 bd:∀s∈S,1<=g s/\g s<=m
 whole:(S.map λs=>2 ^ (m-g s)).sum=2 ^ m
 order:∀s∈S,∀t∈S,f s<f t->g t<=g s
 least:∀h:Int->Nat,(∀s∈S,h s<=m)->(S.map λs=>2 ^ (m-h s)).sum<=2 ^ m->(S.map λs=>f s*(g s:Int)).sum<=(S.map λs=>f s*(h s:Int)).sum
theorem o9 (M:S.Nodup) (g:S.Pairwise λs t=>f s<=f t) (h0:∀s∈S,0<=f s) (h2:2<=S.length) (N:1<=m) (X:S.length<=2 ^ m):Vr f S m (lL f S m):=by
 have hF:=Au g
 have j:∀p∈bj f S,0<=p.w:=λp hp=>by
  obtain⟨s,Z,Q,_⟩ :=fx p hp;rw[Q];exact h0 s Z
 obtain⟨K,rfl⟩ :∃K,m=K+1:= ⟨m-1,ω⟩;have C:=Da (F:=bj f S) (n:=2) (k:=K) (by rw[ei,Nat.mul_comm,<-Nat.pow_succ];exact X);rw[ei]at C;obtain⟨A,B,U,T,g3,R,g5, -⟩ :=Kl hF j K (2*S.length-2) ω;rw[ei]at T
 have P:(Ba f S (K+1)).Perm ((A::B).flatMap λb=>S.take b):=by
  have e:(λb=>mF ((bj f S).take b))=λb=>S.take b:=by funext b;rw[uU,MO]
  rw[e]at R;exact R
 have c:∀r,r<S.length->lL f S (K+1) (ix S r)=kD (A::B) r:=λr a=>by
  unfold lL;rw[P.count_eq,F5 M a]
 have i:∀s∈S,∃r,r<S.length/\ix S r=s:=λs g=>by
  obtain⟨r,a,e⟩ :=List.getElem_of_mem g;exact⟨r,a,by simp [ix,a,e]⟩
 have E:∀s∈S,lL f S (K+1) s<=K+1:=λs g=>by
  obtain⟨r,a,rfl⟩ :=i s g;rw[c r a,<-U];exact Hx _ _
 have J:(S.map λs=>2 ^ (K+1-lL f S (K+1) s)).sum=2 ^ (K+1):=by
  have I:(S.map λs=>2 ^ (K+1-lL f S (K+1) s))=(List.range S.length).map λr=>2 ^ (K+1-kD (A::B) r):=by
   have e0:∀G:Int->Nat,S.map G=(List.range S.length).map λr=>G (ix S r):=λG=>by
    conv=>lhs;rw[<-KF S,List.map_map]
    rfl
   rw[e0];refine List.map_congr_left λr a=> ?_
   rw[c r (List.mem_range.1 a)]
  have u:=sum_add (List.range S.length) (λr=>2 ^ (K+1-kD (A::B) r)) (LG (A::B))
  have e3:(λr=>2 ^ (K+1-kD (A::B) r)+LG (A::B) r)=λ_=>2 ^ (K+1):=by
   funext r
   have:=XR (A::B) r g3;rw[U]at this;exact this
  have e4:((List.range S.length).map λ_=>2 ^ (K+1)).sum=S.length*2 ^ (K+1):=by
   have:=yo S.length (2 ^ (K+1)) S.length (Nat.le_refl _);rw[<-this];congr 1;exact List.map_congr_left λr a=>by rw[if_pos (List.mem_range.1 a)]
  rw[e3,e4,XS _ _ T,g5]at u;rw[I];have H:2*S.length-2=2*(S.length-1):=ω;rw[H,Nat.mul_assoc,Nat.mul_left_comm,<-Nat.pow_succ',Nat.succ_eq_add_one]at u
  have e6:S.length*2 ^ (K+1)=(S.length-1)*2 ^ (K+1)+2 ^ (K+1):=by
   conv=>lhs;rw[show S.length=S.length-1+1 by omega,Nat.add_mul,Nat.one_mul]
  omega
 refine⟨λs g=> ?_,λs g=> ⟨?_,E s g⟩,J,λs g t ht y=> ?_,λh O hk=> ?_⟩
 · refine List.count_eq_zero_of_not_mem λN=>g ?_
   obtain⟨b,_,o⟩ :=List.mem_flatMap.1 (P.mem_iff.1 N);exact List.mem_of_mem_take o
 · rcases Nat.eq_zero_or_pos (lL f S (K+1) s)with h | h
   · exfalso
     have hp:=qG ((List.perm_cons_erase g).map λs=>2 ^ (K+1-lL f S (K+1) s));rw[List.map_cons,List.sum_cons,h,J,Nat.sub_zero]at hp
     have:=Yd ((S.erase s).map λs=>2 ^ (K+1-lL f S (K+1) s)) (λx V=>by
      obtain⟨t,_,rfl⟩ :=List.mem_map.1 V;exact Nat.two_pow_pos _)
     rw[List.length_map,List.length_erase_of_mem g]at this;have Q:(2:Nat) ^ (K+1)=2 ^ (K+1)+((S.erase s).map λs=>2 ^ (K+1-lL f S (K+1) s)).sum:=hp;omega
   · exact h
 · obtain⟨r,a,rfl⟩ :=i s g;obtain⟨q,z,rfl⟩ :=i t ht;rw[c r a,c q z];refine Jm _ ?_;rcases Nat.lt_or_ge q r with h | h
   · exfalso
     have hp:=List.pairwise_iff_getElem.1 ‹S.Pairwise λs t=>f s<=f t› q r z a h
     have I:ix S r=S[r]:=by simp [ix,a]
     have u:ix S q=S[q]:=by simp [ix,z]
     rw[I,u]at y;omega
   · exact h
 · obtain⟨D,hD⟩ :∃D,D=(List.range (K+1)).map λd=>(S.filter λs=>decide (d<h s)).length:= ⟨_,rfl⟩
   have hv:=Ky h S O;rw[<-hD]at hv
   obtain⟨l1,l2⟩ :=Km hF j K D (by rw[hD];simp) (λb o=>by
    rw[hD]at o;obtain⟨d,_,rfl⟩ :=List.mem_map.1 o;rw[ei];exact List.length_filter_le _ _)
   have Y:2*S.length-2<=gJ D/2 ^ K:=by
    rw[Nat.le_div_iff_mul_le (Nat.two_pow_pos _)]
    have H:(2*S.length-2)*2 ^ K=(S.length-1)*2 ^ (K+1):=by
     rw[show 2*S.length-2=2*(S.length-1) by omega,Nat.mul_assoc,Nat.mul_left_comm,<-Nat.pow_succ']
    have e6:S.length*2 ^ (K+1)=(S.length-1)*2 ^ (K+1)+2 ^ (K+1):=by
     conv=>lhs;rw[show S.length=S.length-1+1 by omega,Nat.add_mul,Nat.one_mul]
    rw[H];omega
   have L:=uW f S K
   have tu:ky ((lev (bj f S) K).take (2*S.length-2))=(S.map λs=>f s*((lL f S (K+1) s:Nat):Int)).sum:=by
    rw[Ti f _ λp hp=>(L p (List.mem_of_mem_take hp)).1];refine KX f M _ λt ht=> ?_
    obtain⟨p,hp,v⟩ :=List.mem_flatMap.1 ht;exact(L p (List.mem_of_mem_take hp)).2 t v
   have W:ky ((lev (bj f S) K).take (2*S.length-2))<=ky ((lev (bj f S) K).take (gJ D/2 ^ K)):=by
    have e:(lev (bj f S) K).take (gJ D/2 ^ K)=(lev (bj f S) K).take (2*S.length-2)++((lev (bj f S) K).take (gJ D/2 ^ K)).drop (2*S.length-2):=by
     have:(lev (bj f S) K).take (2*S.length-2)=((lev (bj f S) K).take (gJ D/2 ^ K)).take (2*S.length-2):=by rw[List.take_take,Nat.min_eq_left Y]
     rw[this,List.take_append_drop]
    rw[e,fZ];have:=vV (l:=((lev (bj f S) K).take (gJ D/2 ^ K)).drop (2*S.length-2)) λp hp=>pj j K p (List.mem_of_mem_take (List.mem_of_mem_drop hp))
    omega
   have rI:(D.map λb=>ky ((bj f S).take b)).sum<=(S.map λs=>f s*(h s:Int)).sum:=by
    rw[<-Gu f h S O,hD,List.map_map];refine Ta _ _ _ λd _=> ?_
    show ky ((bj f S).take (S.filter λs=>decide (d<h s)).length)<=_
    rw[uU,PU];exact zg ‹_› _
   omega
end
def ke (a b:Int):Int:=if 0<a/\0<b/\b<=1048576/\a<=1048576 then a*b else 0
def aZ (l f:List Int):Nat->Int
 | 0=>0
 | k+1=>aZ l f k+ke (ix l k) (ix f k)
theorem xt (a b:Int):0<=ke a b/\ke a b<=1099511627776:=by
 unfold ke
 split
 · rename_i h
   obtain⟨e,d,c,h4⟩ :=h;refine⟨Int.mul_nonneg ω ω, ?_⟩
   calc a*b<=1048576*1048576:=Int.mul_le_mul h4 c ω ω
    _=1099511627776:=by rfl
 · omega
theorem iu (l f:List Int) (k:Nat) (b:k<=1000):0<=aZ l f k/\aZ l f k<=1099511627776*k:=by
 induction k with
 | zero=>simp [aZ]
 | succ k a=>
   have d:=a ω;have c:=xt (ix l k) (ix f k);simp only [aZ];omega
theorem oP {a b:Int} (e:0<a) (d:0<b) (c:b<=1048576) (h4:a<=1048576):ke a b=a*b:=by
 unfold ke;rw[if_pos ⟨e,d,c,h4⟩]
theorem nS {a b:Int} (h:¬(0<a/\0<b/\b<=1048576/\a<=1048576)):ke a b=0:=by
 unfold ke;rw[if_neg h]
def pU (x:Int) (l:List Int):Nat->Int
 | 0=>x
 | k+1=>(pU x l k+ix l k)%65521
def wm (x y:Int) (l:List Int):Nat->Int
 | 0=>y
 | k+1=>(wm x y l k+pU x l (k+1))%65521
theorem M7 {x:Int} {l:List Int} (h:0<=x/\x<65521) (k:Nat):0<=pU x l k/\pU x l k<65521:=by
 cases k with
 | zero=>exact h
 | succ k=>simp only [pU];omega
theorem Ma {x y:Int} {l:List Int} (h:0<=y/\y<65521) (k:Nat):0<=wm x y l k/\wm x y l k<65521:=by
 cases k with
 | zero=>exact h
 | succ k=>simp only [wm];omega
open Go.RowKit
theorem fO (w:World) (o:Obj):(w.alloc o).heap.size=w.heap.size+1:=σ
end Go.Proofs.YtddhegejmkgmjaaGreat
