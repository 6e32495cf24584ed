/-
  part
-/
import Derived.Test.YtdhmnlpfhfmpfaaGreatPk1
set_option linter.unusedVariables false
set_option maxRecDepth 100000
set_option maxHeartbeats 4000000
namespace Go.Proofs.YtdhmnlpfhfmpfaaGreat
def fD (f:Int->Int) (S:aj):List Pk:=S.map λs=> ⟨f s,[s]⟩
def Gd (f:Int->Int) (S:aj) (m:Nat):aj:=sG ((lev (fD f S) (m-1)).take (2*S.length-2))
def tZ (f:Int->Int) (S:aj) (m:Nat) (s:Int):Nat:=(Gd f S m).count s
def tS:List Nat->Nat->Nat
 | [],_=>0
 | b::B,r=>(if r<b then 1 else 0)+tS B r
def SF:List Nat->Nat->Nat
 | [],_=>0
 | b::B,r=>(if r<b then 2 ^ B.length else 0)+SF B r
section
variable {f:Int->Int} {S:aj} {m n:Nat}
theorem TY (f:Int->Int) (S:aj):sG (fD f S)=S:=by
 induction S with
 | nil=>rfl
 | cons s S a=>rw[fD,List.map_cons,vP];show [s]++sG (fD f S)=_;rw[a];rfl
theorem M0 (f:Int->Int) (S:aj) (b:Nat):(fD f S).take b=fD f (S.take b):=by unfold fD;rw[List.map_take]
theorem kA (f:Int->Int) (S:aj):(fD f S).length=S.length:=by simp [fD]
theorem FB (h:S.Pairwise λs t=>f s<=f t):RX (fD f S):=by
 unfold RX fD;rw[List.pairwise_map];exact h
theorem kB:∀p∈fD f S,∃s∈S,p.w=f s/\p.l=[s]:=λp hp=>by
 obtain⟨s,a,rfl⟩ :=gJ.1 hp;exact⟨s,a,rfl,rfl⟩
theorem a4P (l:List Nat) (h:∀x∈l,1<=x):l.length<=l.sum:=by
 induction l with
 | nil=>exact ai _
 | cons x l a=>
   have:=h x aH;have:=a λy b=>h y (aI _ b);simp only [List.length_cons,List.sum_cons];omega
theorem JK {a b:List Nat} (h:a.Perm b):a.sum=b.sum:=by
 induction h with
 | nil=>rfl
 | cons x _ ih=>rw[List.sum_cons,List.sum_cons,ih]
 | swap x y l=>simp only [List.sum_cons];omega
 | trans _ _ h1 h2=>exact h1.trans h2
theorem R9 (S:aj):(List.range S.length).map (ix S)=S:=by
 apply fw
 · simp
 intro i b a;simp [ix,a]
theorem Ee (b c:Nat):∀n,b<=n->((List.range n).map λr=>if r<b then c else 0).sum=b*c:=by
 intro n;induction n generalizing b with
 | zero=>intro h;obtain rfl:b=0:=ω
         simp
 | succ n a=>
   intro h;rw[jv,dR,List.sum_append];by_cases e:b=n+1
   · subst e
     have f:((List.range n).map λr=>if r<n+1 then c else 0)=(List.range n).map λr=>if r<n then c else 0:=df λr d=>by
      have:=List.mem_range.1 d;rw[af ω,af ω]
     rw[f,a n (ai _)];simp [Nat.add_mul]
   rw[a b ω];simp only [List.map_cons,List.map_nil,List.sum_cons,List.sum_nil];rw[aa ω];omega
theorem sum_add {α:Type} (l:List α) (g h:α->Nat):(l.map λx=>g x+h x).sum=(l.map g).sum+(l.map h).sum:=by
 induction l with
 | nil=>rfl
 | cons x l a=>simp only [List.map_cons,List.sum_cons,a];omega
theorem a4n (B:List Nat) (n:Nat) (h:∀b∈B,b<=n):((List.range n).map (SF B)).sum=MV B:=by
 induction B with
 | nil=>simp only [SF,MV];induction n with
        | zero=>rfl
        | succ n a=>rw[jv,dR,List.sum_append,a σ];rfl
 | cons b B a=>
   have e:(SF (b::B))=λr=>(if r<b then 2 ^ B.length else 0)+SF B r:=by funext r;rfl
   rw[e,sum_add,Ee _ _ _ (h b aH),MV,a λc d=>h c (aI _ d)]
theorem Tv (B:List Nat) (r:Nat) (h:∀b∈B,b<=r):tS B r=0/\SF B r=0:=by
 induction B with
 | nil=>exact⟨rfl,rfl⟩
 | cons b B a=>
   have:=h b aH;obtain⟨f,e⟩ :=a λc d=>h c (aI _ d);rw[tS,SF,aa ω,aa ω,f,e];exact⟨rfl,rfl⟩
theorem Ns (B:List Nat) (r:Nat):tS B r<=B.length:=by
 induction B with
 | nil=>exact ai _
 | cons b B a=>rw[tS,bc];split <;> omega
theorem a4m (B:List Nat) (r:Nat) (i:B.Pairwise λc d=>d<=c):2 ^ (B.length-tS B r)+SF B r=2 ^ B.length:=by
 induction B with
 | nil=>rfl
 | cons b B g=>
   obtain⟨k,j⟩ :=aW.1 i;have a:=Ns B r;by_cases h:r<b
   · rw[tS,SF,af h,af h,bc,show B.length+1-(1+tS B r)=B.length-tS B r by omega,fG];have:=g j;omega
   obtain⟨f,e⟩ :=Tv B r λc a=>by have:=k c a;omega
   rw[tS,SF,aa h,aa h,f,e];rfl
theorem Bh {S:aj} {r:Nat} (a:r<S.length):ix S r∈S:=by
 have:ix S r=S[r]:=by simp [ix,a]
 rw[this];exact bU a
theorem KN (j:S.Nodup) {r:Nat} (f:r<S.length) (b:Nat):(S.take b).count (ix S r)=if r<b then 1 else 0:=by
 induction S generalizing r b with
 | nil=>simp at f
 | cons x a i=>
   obtain⟨g,k⟩ :=List.nodup_cons.1 j;cases b with
   | zero=>simp
   | succ b=>
     rw[cO,List.count_cons];cases r with
     | zero=>
       have e:ix (x::a) 0=x:=rfl;rw[e,List.count_eq_zero_of_not_mem λh=>g (aO h)];simp
     | succ r=>
       have c:r<a.length:=by simpa using f
       have e:ix (x::a) (r+1)=ix a r:=rfl;have d:x≠ix a r:=λh=>g (by rw[h];exact Bh c);rw[e,i k c];simp [d]
theorem KM (d:S.Nodup) {r:Nat} (c:r<S.length) (B:List Nat):(B.flatMap λb=>S.take b).count (ix S r)=tS B r:=by
 induction B with
 | nil=>rfl
 | cons b B a=>rw[List.flatMap_cons,fZ,a,KN d c,tS]
theorem Md (f:Int->Int) (S:aj) (k:Nat):∀p∈lev (fD f S) k,p.w=(p.l.map f).sum/\∀s∈p.l,s∈S:=by
 have e:∀p∈fD f S,p.w=(p.l.map f).sum/\∀s∈p.l,s∈S:=λp hp=>by
  obtain⟨s,a,j,i⟩ :=kB p hp;rw[j,i];refine⟨σ,λt ht=> ?_⟩;rw[bf.1 ht];exact a
 induction k with
 | zero=>exact e
 | succ k b=>
   intro p hp;rcases aP.1 ((qc _ _).mem_iff.1 hp)with h | h
   · exact e p h
   obtain⟨c,g,d,hd,n,m⟩ :=tN _ p h;obtain⟨c1,c2⟩ :=b c g;obtain⟨d1,d2⟩ :=b d hd;rw[n,m,c1,d1];refine⟨σ,λs a=> ?_⟩;rcases aP.1 a with h | h
   · exact c2 s h
   exact d2 s h
structure a2n (f:Int->Int) (S:aj) (m:Nat) (g:Int->Nat):Prop where
 out:∀s,s∉S->g s=0
 bd:∀s∈S,1<=g s/\g s<=m
 whole:(S.map λs=>2 ^ (m-g s)).sum=2 ^ m
theorem xN (E:S.Nodup) (a:S.Pairwise λs t=>f s<=f t) (M:∀s∈S,0<=f s) (V:2<=S.length) (o:1<=m) (H:S.length<=2 ^ m):a2n f S m (tZ f S m):=by
 have hF:=FB a
 have J:∀p∈fD f S,0<=p.w:=λp hp=>by
  obtain⟨s,L,u,_⟩ :=kB p hp;rw[u];exact M s L
 obtain⟨K,rfl⟩ :∃K,m=K+1:= ⟨m-1,ω⟩;have i:=J7 (F:=fD f S) (n:=2) (k:=K) (by rw[kA,eE,<-fG];exact H);rw[kA]at i;obtain⟨A,B,z,y,O,v,N, -⟩ :=QM hF J K (2*S.length-2) ω;rw[kA]at y
 have q:(Gd f S (K+1)).Perm ((A::B).flatMap λb=>S.take b):=by
  have e:(λb=>sG ((fD f S).take b))=λb=>S.take b:=by funext b;rw[M0,TY]
  rw[e]at v;exact v
 have d:∀r,r<S.length->tZ f S (K+1) (ix S r)=tS (A::B) r:=λr c=>by
  unfold tZ;rw[q.count_eq,KM E c]
 have g:∀s∈S,∃r,r<S.length/\ix S r=s:=λs a=>by
  obtain⟨r,c,e⟩ :=gP a;exact⟨r,c,by simp [ix,c,e]⟩
 have j:∀s∈S,tZ f S (K+1) s<=K+1:=λs a=>by
  obtain⟨r,c,rfl⟩ :=g s a;rw[d r c,<-z];exact Ns _ _
 have l:(S.map λs=>2 ^ (K+1-tZ f S (K+1) s)).sum=2 ^ (K+1):=by
  have T:(S.map λs=>2 ^ (K+1-tZ f S (K+1) s))=(List.range S.length).map λr=>2 ^ (K+1-tS (A::B) r):=by
   have U:∀G:Int->Nat,S.map G=(List.range S.length).map λr=>G (ix S r):=λG=>by
    conv=>lhs;rw[<-R9 S,List.map_map]
    rfl
   rw[U];refine df λr c=> ?_;rw[d r (List.mem_range.1 c)]
  have C:=sum_add (List.range S.length) (λr=>2 ^ (K+1-tS (A::B) r)) (SF (A::B))
  have R:(λr=>2 ^ (K+1-tS (A::B) r)+SF (A::B) r)=λ_=>2 ^ (K+1):=by
   funext r
   have:=a4m (A::B) r O;rw[z]at this;exact this
  have Q:((List.range S.length).map λ_=>2 ^ (K+1)).sum=S.length*2 ^ (K+1):=by
   have:=Ee S.length (2 ^ (K+1)) S.length (ai _);rw[<-this];congr 1;exact df λr c=>by rw[af (List.mem_range.1 c)]
  rw[R,Q,a4n _ _ y,N]at C;rw[T];have P:2*S.length-2=2*(S.length-1):=ω;rw[P,i6,Nat.mul_left_comm,<-Nat.pow_succ',Nat.succ_eq_add_one]at C
  have W:S.length*2 ^ (K+1)=(S.length-1)*2 ^ (K+1)+2 ^ (K+1):=by
   conv=>lhs;rw[show S.length=S.length-1+1 by omega,eD,Nat.one_mul]
  omega
 refine⟨λs a=> ?_,λs a=> ⟨?_,j s a⟩,l⟩
 · refine List.count_eq_zero_of_not_mem λo=>a ?_;obtain⟨b,_,I⟩ :=iQ.1 (q.mem_iff.1 o);exact aO I
 rcases bY (tZ f S (K+1) s)with h | h
 · exfalso
   have hp:=JK ((List.perm_cons_erase a).map λs=>2 ^ (K+1-tZ f S (K+1) s));rw[List.map_cons,List.sum_cons,h,l,Nat.sub_zero]at hp
   have:=a4P ((S.erase s).map λs=>2 ^ (K+1-tZ f S (K+1) s)) (λx D=>by
    obtain⟨t,_,rfl⟩ :=gJ.1 D;exact fQ _)
   rw[ju,List.length_erase_of_mem a]at this;have u:(2:Nat) ^ (K+1)=2 ^ (K+1)+((S.erase s).map λs=>2 ^ (K+1-tZ f S (K+1) s)).sum:=hp;omega
 exact h
end
def pz (a b:Int):Int:=if 0<a/\0<b/\b<=1048576/\a<=1048576 then a*b else 0
def fc (l f:aj):Nat->Int
 | 0=>0
 | k+1=>fc l f k+pz (ix l k) (ix f k)
theorem D7 (a b:Int):0<=pz a b/\pz a b<=1099511627776:=by
 unfold pz;split
 · rename_i h
   obtain⟨e,d,c,h4⟩ :=h;refine⟨Int.mul_nonneg ω ω, ?_⟩
   calc a*b<=1048576*1048576:=Int.mul_le_mul h4 c ω ω
    _=1099511627776:=by rfl
 omega
theorem mE (l f:aj) (k:Nat) (b:k<=1000):0<=fc l f k/\fc l f k<=1099511627776*k:=by
 induction k with
 | zero=>simp [fc]
 | succ k a=>
   have d:=a ω;have c:=D7 (ix l k) (ix f k);simp only [fc];omega
theorem Am {a b:Int} (e:0<a) (d:0<b) (c:b<=1048576) (h4:a<=1048576):pz a b=a*b:=by
 unfold pz;rw[af ⟨e,d,c,h4⟩]
theorem D8 {a b:Int} (h:¬(0<a/\0<b/\b<=1048576/\a<=1048576)):pz a b=0:=by
 unfold pz;rw[aa h]
def oK:aj->Int
 | []=>0
 | b::l=>b+256*oK l
theorem a0u (l:aj) (x:Int):oK (l++[x])=oK l+256 ^ l.length*x:=by
 induction l with
 | nil=>simp [oK]
 | cons b l a=>
   show b+256*oK (l++[x])=b+256*oK l+256 ^ (l.length+1)*x;rw[a,Int.mul_add,eP,fF (256 ^ l.length) 256,Int.mul_assoc];omega
theorem Bk {l:aj} (h:∀x∈l,0<=x/\x<256):0<=oK l/\oK l<256 ^ l.length:=by
 induction l with
 | nil=>simp [oK]
 | cons b l a=>
   have e:=a λy c=>h y (aI _ c);have d:=h b (aH ..);simp only [oK,List.length_cons,Int.pow_succ];omega
theorem gv {l:aj} (h:∀x∈l,0<=x/\x<256) (i:Nat):0<=ix l i/\ix l i<256:=by
 unfold ix;rw[aq];cases hi:l[i]? with
 | none=>simp
 | some v=>exact h v (cT hi)
theorem Gc {l:aj} {k:Nat} (h:k<l.length):l.take (k+1)=l.take k++[ix l k]:=by
 rw[List.take_add_one];simp [ix,h]
def nz (l:aj):Nat:=(l.takeWhile (· ≠0)).length
theorem nY (x:Int) (l:aj):nz (x::l)=if x=0 then 0 else nz l+1:=by
 unfold nz;by_cases h:x=0 <;> simp [h]
theorem Wn (l:aj):nz l<=l.length:=by
 induction l with
 | nil=>simp [nz]
 | cons x l a=>rw[nY];split <;> simp;omega
theorem Wo {l:aj} {i:Nat} (h:i<nz l):ix l i≠0:=by
 induction l generalizing i with
 | nil=>simp [nz]at h
 | cons x l a=>
   rw[nY]at h;split at h
   · omega
   cases i with
   | zero=>simpa [ix]
   | succ i=>exact a ω
theorem a1S {l:aj} (h:nz l<l.length):ix l (nz l)=0:=by
 induction l with
 | nil=>simp [nz]at h
 | cons x l a=>
   rw[nY]at h⊢;split
   · simpa [ix]
   rename_i b
   rw[aa b]at h;exact a (by simpa using h)
theorem Wm {l:aj} {k:Nat} (b:k<=l.length) (h:∀i,i<k->ix l i≠0):k<=nz l:=by
 rcases aV (nz l) k with a | a
 · exact absurd (a1S ω) (h _ a)
 exact a
def o0 (l:aj) (a:Nat) (e:Int) (m:Nat):Int:=if e=0/\l.length-a<m then 5 else e
def xe (l:aj) (a:Nat) (e:Int) (m:Nat):Nat:=if o0 l a e m=0 then a+m else a
def uX (l:aj) (a:Nat) (e:Int) (m:Nat):aj:=if o0 l a e m=0 then(l.drop a).take m else []
def Oo (l:aj) (a:Nat) (e:Int):Int:=if o0 l a e 1=0 then ix l a else 0
def GG (l:aj) (a:Nat) (e c:Int):Int:=if o0 l a e 1=0/\ix l a≠c then 2 else o0 l a e 1
def rz (r:aj):aj×Nat×Int:=
 if nz r<r.length/\nz r<=4096 then(r.take (nz r),nz r+1,0)else if 4096<r.length then([],0,2)else([],0,5)
def JW (l:aj) (a:Nat) (e:Int):Int:=if e=0 then(rz (l.drop a)).2.2 else e
def RG (l:aj) (a:Nat) (e:Int):Nat:=if e=0 then a+(rz (l.drop a)).2.1 else a
def XJ (l:aj) (a:Nat) (e:Int):aj:=if e=0 then(rz (l.drop a)).1 else []
def Zj (e f:Int):Int:=if e=0/\31<f then 2 else e
def b1 (l:aj):Nat:=xe l 0 0 1
def q1 (l:aj):Int:=GG l 0 0 31
def b2 (l:aj):Nat:=xe l (b1 l) (q1 l) 1
def q2 (l:aj):Int:=GG l (b1 l) (q1 l) 139
def b3 (l:aj):Nat:=xe l (b2 l) (q2 l) 1
def q3 (l:aj):Int:=GG l (b2 l) (q2 l) 8
def fB (l:aj):Int:=Oo l (b3 l) (q3 l)
def b4 (l:aj):Nat:=xe l (b3 l) (q3 l) 1
def q4 (l:aj):Int:=Zj (o0 l (b3 l) (q3 l) 1) (fB l)
def Xz (l:aj):Int:=oK (uX l (b4 l) (q4 l) 4)
def b5 (l:aj):Nat:=xe l (b4 l) (q4 l) 4
def q5 (l:aj):Int:=o0 l (b4 l) (q4 l) 4
def TX (l:aj):Int:=Oo l (b5 l) (q5 l)
def b6 (l:aj):Nat:=xe l (b5 l) (q5 l) 1
def q6 (l:aj):Int:=o0 l (b5 l) (q5 l) 1
def Yl (l:aj):Int:=Oo l (b6 l) (q6 l)
def b7 (l:aj):Nat:=xe l (b6 l) (q6 l) 1
def q7 (l:aj):Int:=o0 l (b6 l) (q6 l) 1
def OQ (l:aj):Int:=oK (uX l (b7 l) (q7 l) 2)
def b8 (l:aj):Nat:=xe l (b7 l) (q7 l) 2
def q8 (l:aj):Int:=o0 l (b7 l) (q7 l) 2
def bit (f k:Int):Bool:=decide (f/k%2=1)
def vO (l:aj):aj:=if bit (fB l) 4 then uX l (b8 l) (q8 l) (OQ l).toNat else []
def b9 (l:aj):Nat:=if bit (fB l) 4 then xe l (b8 l) (q8 l) (OQ l).toNat else b7 l
def q9 (l:aj):Int:=if bit (fB l) 4 then o0 l (b8 l) (q8 l) (OQ l).toNat else q7 l
def yD (l:aj):aj:=if bit (fB l) 8 then XJ l (b9 l) (q9 l)else []
def rR (l:aj):Nat:=if bit (fB l) 8 then RG l (b9 l) (q9 l)else b9 l
def uS (l:aj):Int:=if bit (fB l) 8 then JW l (b9 l) (q9 l)else q9 l
def D4 (l:aj):aj:=if bit (fB l) 16 then XJ l (rR l) (uS l)else []
def mA (l:aj):Nat:=if bit (fB l) 16 then RG l (rR l) (uS l)else rR l
def rP (l:aj):Int:=if bit (fB l) 16 then JW l (rR l) (uS l)else uS l
theorem a4z {l:aj} (h:∀x∈l,0<=x/\x<256) (a:Nat) (e:Int):0<=Oo l a e/\Oo l a e<256:=by
 unfold Oo;split
 · exact gv h a
 omega
theorem Ge {l:aj} (h:∀x∈l,0<=x/\x<256) (a:Nat) (e:Int) (m:Nat):∀x∈uX l a e m,0<=x/\x<256:=by
 unfold uX;split
 · exact λx b=>h x (bu (aO b))
 exact λx b=>by cases b
theorem C3 (l:aj) (a:Nat) (e:Int) (m:Nat):(uX l a e m).length<=m:=by
 unfold uX;split
 · rw[aD];omega
 simp
theorem oF {l:aj} {a:Nat} {e:Int} {m:Nat} (h:o0 l a e m=0):e=0/\(m<=l.length-a):=by
 unfold o0 at h;split at h
 · omega
 rename_i b
 exact⟨h,ω⟩
theorem XI {l:aj} {a:Nat} {e:Int} (h:JW l a e=0):e=0:=by
 unfold JW at h;split at h
 · assumption
 exact h
theorem WN {l:aj} (h:q7 l=0):0<l.length:=by
 have h6:=(oF h).1;have h5:=(oF (show o0 l (b5 l) (q5 l) 1=0 from h6)).1;have h4:q4 l=0:=(oF (show o0 l (b4 l) (q4 l) 4=0 from h5)).1
 have a:o0 l (b3 l) (q3 l) 1=0:=by
  unfold q4 Zj at h4;split at h4
  · omega
  exact h4
 have:=(oF a).2;omega
theorem MB {l:aj} (h:q9 l=0):0<l.length:=by
 unfold q9 at h;split at h
 · exact WN (oF (show o0 l (b7 l) (q7 l) 2=0 from(oF h).1)).1
 exact WN h
theorem a0P {l:aj} (h:uS l=0):0<l.length:=by
 unfold uS at h;split at h
 · exact MB (XI h)
 exact MB h
open Go.RowKit
def iN (m:Nat) (f:Nat->Value):Array Value:=((List.range m).map f).toArray
theorem jh (m:Nat) (f:Nat->Value):(iN m f).size=m:=by simp [iN]
theorem Tj {m i:Nat} (f:Nat->Value) (h:i<m):(iN m f)[i]?=some (f i):=by simp [iN,h]
theorem oT {m:Nat} {f f':Nat->Value} (h:∀i,i<m->f i=f' i):iN m f=iN m f':=by
 unfold iN;congr 1
 apply df
 intro i hi;exact h i (by simpa using hi)
theorem Pf (m:Nat) (f:Nat->Value) (i:Nat) (u:Value):(iN m f).setIfInBounds i u=iN m (upd f i u):=by
 apply Array.ext
 · simp [iN]
 intro j c b;have a:j<m:=by simpa [iN] using b
 rw[Array.getElem_setIfInBounds (by simpa [iN] using a)];by_cases e:i=j
 · subst e;simp [iN,upd]
 rw[aa e];simp [iN,upd];intro h;exact absurd h.symm e
def qp (w:World) (g:Nat) (t:TypeId) (m:Nat) (f:Nat->Value):Prop:=w.heap[g]?=some (.cells (iN m f) t (0,0))
section
variable {w w':World} {g m:Nat} {t:TypeId} {f:Nat->Value}
theorem qp.ar (h:qp w g t m f):Ar w g m f:= ⟨_,t,(0,0),h, .inr rfl,by rw[jh];exact ai _,λi hi=>Tj f hi⟩
theorem qp.lt (h:qp w g t m f):g<w.heap.size:=gg h
theorem qp.cell (h:qp w g t m f) {i:Nat} (hi:i<m):w.cell? ⟨g,i,none⟩ =some (f i):=h.ar.cell hi
theorem qp.frozen (h:qp w g t m f) (i:Nat):w.frozen? ⟨g,i,none⟩ =false:=by
 unfold qp at h;simp [World.frozen?,h]
theorem qp.same (h:qp w g t m f) (a:w'.heap[g]?=w.heap[g]?):qp w' g t m f:=a.trans h
theorem qp.alloc (h:qp w g t m f) (o:Obj):qp (w.alloc o) g t m f:=h.same (dC w o g h.lt)
theorem qp.far (h:qp w g t m f) {p:Addr} (hp:g≠p.block) (u:Value):qp (w.setCell p u) g t m f:=h.same (cV w p u g hp)
theorem qp.congr {f':Nat->Value} (h:qp w g t m f) (hf:∀i,i<m->f i=f' i):qp w g t m f':=by
 unfold qp at*;rw[h,oT hf]
theorem qp.bK (h:qp w g t m f) (i:Nat) (u:Value):qp (w.setCell ⟨g,i,none⟩ u) g t m (upd f i u):=by
 unfold qp at*;rw[<-Pf];simp [World.setCell,Array.getElem?_modify,h]
theorem qp.new {g:Nat} (a:g=w.heap.size) (cs:Array Value) (t:TypeId) (h:cs=iN m f):qp (w.alloc (.cells cs t)) g t m f:=by
 subst a;subst h;exact dt w _
theorem qp.row (h:qp w g t m f) (a:Nat) (f':Nat->Value):qp (w.setRow g (iN a f')) g t a f':=setRow_heap w g _ _ t (0,0) h
theorem vF {B:Nat} {a:World} (h:Below B a w) (c:B<=g) (cs:Array Value):Below B a (w.setRow g cs):=
 h.trans ⟨rfl,rfl,rfl,σ,λk b=>setRow_other w g k cs ω⟩
end
theorem CX (m:Nat) (f:Nat->Value) (h:∀i,i<m->(f i).oneCell'=true):(iN m f).all (·.oneCell')=true:=by
 rw[Array.all_eq_true_iff_forall_mem];intro v hv;simp [iN]at hv;obtain⟨i,hi,rfl⟩ :=hv;exact h i hi
def WJ:Nat:=3988292384
def MQ (x:Nat):Nat:=if x%2=1 then(x/2) ^^^ WJ else x/2
def wK:Nat->Nat->Nat
 | 0,x=>x
 | k+1,x=>MQ (wK k x)
theorem a11 (a b:Nat):MQ (a ^^^ b)=MQ a ^^^ MQ b:=by
 unfold MQ;rw[Nat.xor_div_two];have e:(a ^^^ b)%2=1↔¬(a%2=1↔b%2=1):=Nat.xor_mod_two_eq_one;by_cases d:a%2=1 <;> by_cases c:b%2=1
 · rw[aa (by rw[e];simp [d,c]),af d,af c]
   apply gF
   intro i;simp only [Nat.testBit_xor];cases (a/2).testBit i <;> cases (b/2).testBit i <;> cases WJ.testBit i <;> rfl
 · rw[af (by rw[e];simp [d,c]),af d,aa c]
   apply gF
   intro i;simp only [Nat.testBit_xor];cases (a/2).testBit i <;> cases (b/2).testBit i <;> cases WJ.testBit i <;> rfl
 · rw[af (by rw[e];simp [d,c]),aa d,af c]
   apply gF
   intro i;simp only [Nat.testBit_xor];cases (a/2).testBit i <;> cases (b/2).testBit i <;> cases WJ.testBit i <;> rfl
 rw[aa (by rw[e];simp [d,c]),aa d,aa c]
theorem Xk (k a b:Nat):wK k (a ^^^ b)=wK k a ^^^ wK k b:=by
 induction k with
 | zero=>rfl
 | succ k c=>simp only [wK,c,a11]
theorem Xm (q:Nat):MQ (2*q)=q:=by unfold MQ;rw[aa ω];omega
theorem Rw (k q:Nat):wK k (2 ^ k*q)=q:=by
 induction k generalizing q with
 | zero=>simp [wK]
 | succ k a=>
   have e:2 ^ (k+1)*q=2 ^ k*(2*q):=by rw[fG,i6]
   simp only [wK];rw[e,a,Xm]
theorem Xn {x:Nat} (h:x<4294967296):MQ x<4294967296:=by
 unfold MQ;split
 · exact Nat.xor_lt_two_pow (n:=32) ω (by unfold WJ;omega)
 omega
theorem a0Z {x:Nat} (h:x<4294967296) (k:Nat):wK k x<4294967296:=by
 induction k with
 | zero=>exact h
 | succ k a=>exact Xn a
theorem W8 (x c:Nat) (b:c<256):x ^^^ c=((x%256) ^^^ c) ^^^ (256*(x/256)):=by
 apply gF
 intro i;simp only [Nat.testBit_xor];have f:(x%256).testBit i=(decide (i<8)&&x.testBit i):=Nat.testBit_mod_two_pow x 8 i
 have d:(256*(x/256)).testBit i=(decide (8<=i)&&x.testBit i):=by
  have:(2 ^ 8*(x/256)).testBit i=(decide (i≥8)&&(x/256).testBit (i-8)):=Nat.testBit_two_pow_mul;rw[show(2:Nat) ^ 8=256 from rfl]at this;rw[this];by_cases h:8<=i
  · have e:(x/256).testBit (i-8)=x.testBit i:=by
     have:(x/2 ^ 8).testBit (i-8)=x.testBit (8+(i-8)):=by rw[Nat.testBit_div_two_pow,Nat.add_comm]
     rw[show(2:Nat) ^ 8=256 from rfl]at this;rw[this];congr 1;omega
    rw[e]
  simp [h]
 rw[f,d];by_cases h:i<8
 · have h':¬8<=i:=ω;simp [h,h']
 have h':8<=i:=ω;have a:c.testBit i=false:=fL (aB b (bC (n:=2) ω h'));simp [h,h',a]
theorem Pq (x c:Nat) (a:c<256):wK 8 ((x%256) ^^^ c) ^^^ (x/256)=wK 8 (x ^^^ c):=by
 rw[W8 x c a,Xk 8 ((x%256) ^^^ c),show 256*(x/256)=2 ^ 8*(x/256) from rfl,Rw]
def BU (x:Int):Int:=(MQ x.toNat:Nat)
def nE (k:Nat) (x:Int):Int:=(wK k x.toNat:Nat)
def rD (a b:Int):Int:=(a.toNat ^^^ b.toNat:Nat)
def su (x c:Int):Int:=nE 8 (rD x c)
def mq (x:Int) (l:aj):Nat->Int
 | 0=>x
 | k+1=>su (mq x l k) (ix l k)
theorem BW {x:Int} (h:0<=x):nE 0 x=x:=by unfold nE wK;omega
theorem BV (k:Nat) (x:Int):nE (k+1) x=BU (nE k x):=by unfold BU nE;simp [wK]
theorem JJ (k:Nat) {x:Int} (h:0<=x/\x<4294967296):0<=nE k x/\nE k x<4294967296:=by
 unfold nE;have:=a0Z (x:=x.toNat) ω k;omega
theorem OM {x:Int} (h:0<=x/\x<4294967296):0<=BU x/\BU x<4294967296:=by
 unfold BU;have:=Xn (x:=x.toNat) ω;omega
theorem Gn {a b:Int} (h:0<=a/\a<4294967296) (h':0<=b/\b<4294967296):0<=rD a b/\rD a b<4294967296:=by
 unfold rD;have:=Nat.xor_lt_two_pow (x:=a.toNat) (y:=b.toNat) (n:=32) ω ω;omega
theorem XN {a b:Int} (h:0<=a/\a<256) (h':0<=b/\b<256):0<=rD a b/\rD a b<256:=by
 unfold rD;have:=Nat.xor_lt_two_pow (x:=a.toNat) (y:=b.toNat) (n:=8) ω ω;omega
theorem D9 {x c:Int} (h:0<=x/\x<4294967296) (h':0<=c/\c<256):0<=su x c/\su x c<4294967296:=
 JJ 8 (Gn h ω)
theorem tF {x:Int} {l:aj} (h:0<=x/\x<4294967296) (b:∀i,0<=ix l i/\ix l i<256) (k:Nat):0<=mq x l k/\mq x l k<4294967296:=by
 induction k with
 | zero=>exact h
 | succ k a=>exact D9 a (b k)
theorem MT {x c:Int} (h:0<=x/\x<4294967296) (h':0<=c/\c<256):rD (nE 8 (rD (x%256) c)) (x/256)=su x c:=by
 unfold su rD nE;simp only [Int.toNat_natCast];have b:(x%256).toNat=x.toNat%256:=ω;have a:(x/256).toNat=x.toNat/256:=ω;rw[b,a,Pq _ _ ω]
theorem jz (w:World) (o:Obj):(w.alloc o).heap.size=w.heap.size+1:=σ
end Go.Proofs.YtdhmnlpfhfmpfaaGreat
