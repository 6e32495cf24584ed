/-
  part
-/
import Derived.Test.YtddhegejmkgmjaaGreatPk5
import Derived.Test.YtddhegejmkgmjaaGreatPk3
set_option linter.unusedVariables false
set_option maxRecDepth 100000
set_option maxHeartbeats 4000000
namespace Go.Proofs.YtddhegejmkgmjaaGreat
open Go Go.RowKit
def idxs (l:List Int) (n:Nat):Nat->List Int
 | 0=>[]
 | k+1=>idxs l n k++(if ix l k=(n:Int)then [(k:Int)] else [])
theorem xN (l:List Int) (n k:Nat):idxs l n (k+1)=idxs l n k++(if ix l k=(n:Int)then [(k:Int)] else []):=rfl
theorem jW (l:List Int) (n k:Nat):(idxs l n k).length=cnt l k n:=by
 induction k with
 | zero=>rfl
 | succ k a=>
   unfold idxs cnt;rw[List.length_append,a]
   split <;> simp_all
theorem ny {a b:List Int} {i:Nat} (h:i<a.length):ix (a++b) i=ix a i:=by rw[aL,if_pos h]
theorem qu {a b:List Int} {i:Nat}:ix (a++b) (a.length+i)=ix b i:=by rw[aL,if_neg ω,Nat.add_sub_cancel_left]
theorem zZ (l:List Int) {n i k:Nat} (hi:i<k) (d:ix l i=(n:Int)):ix (idxs l n k) (cnt l i n)=(i:Int):=by
 induction k with
 | zero=>omega
 | succ k f=>
   unfold idxs;by_cases h:i<k
   · have c:cnt l i n<cnt l k n:=by
      have j:cnt l (i+1) n=cnt l i n+1:=by simp [cnt,d]
      have g:=Cb l n (show i+1<=k from h);omega
     rw[ny (by rw[jW];exact c),f h]
   · obtain rfl:i=k:=ω;rw[if_pos d];have e:=qu (a:=idxs l n i) (b:=[(i:Int)]) (i:=0);rw[jW,Nat.add_zero]at e;rw[e];rfl
theorem xM (l:List Int) {n j k:Nat} (b:j<cnt l k n):∃i,i<k/\ix l i=(n:Int)/\cnt l i n=j/\ix (idxs l n k) j=(i:Int):=by
 induction k with
 | zero=>simp [cnt]at b
 | succ k g=>
   by_cases h:j<cnt l k n
   · obtain⟨i,m,f,d,h4⟩ :=g h;exact⟨i,ω,f,d,by rw[<-d];exact zZ l ω f⟩
   · have c:ix l k=(n:Int):=by
      by_cases e:ix l k=(n:Int)
      · exact e
      · unfold cnt at b;rw[if_neg e]at b;omega
     have a:cnt l k n=j:=by unfold cnt at b;rw[if_pos c]at b;omega
     exact⟨k,ω,c,a,by rw[<-a];exact zZ l ω c⟩
def pD (l:List Int):Nat->List Int
 | 0=>[]
 | n+1=>pD l n++idxs l (n+1) l.length
def below (l:List Int):Nat->Nat
 | 0=>0
 | n+1=>below l n+cnt l l.length (n+1)
theorem lX (l:List Int) (n:Nat):(pD l n).length=below l n:=by
 induction n with
 | zero=>rfl
 | succ n a=>rw[pD,List.length_append,a,jW,below]
theorem T7 (l:List Int) {m n:Nat} (h:m<=n) {i:Nat} (hi:i<below l m):ix (pD l n) i=ix (pD l m) i:=by
 induction n with
 | zero=>obtain rfl:m=0:=ω
         rfl
 | succ n d=>
   by_cases e:m=n+1
   · subst e;rfl
   · have f:∀a b,a<=b->below l a<=below l b:=by
      intro a b g
      induction b with
      | zero=>obtain rfl:a=0:=ω
              exact Nat.le_refl _
      | succ b c=>
        by_cases j:a=b+1
        · subst j;exact Nat.le_refl _
        · exact Nat.le_trans (c ω) (by rw[below];omega)
     rw[pD,ny (by rw[lX];exact Nat.lt_of_lt_of_le hi (f m n ω)),d ω]
theorem BZ (l:List Int) (n:Nat):below l n<=n*l.length:=by
 induction n with
 | zero=>simp [below]
 | succ n a=>rw[below,Nat.succ_mul];have:=gS l l.length (n+1);omega
def xi (l:List Int) (n j:Nat):Int:=ix (idxs l n l.length) j
theorem Ya (l:List Int) {n m j:Nat} (c:n+1<=m) (d:j<cnt l l.length (n+1)):ix (pD l m) (below l n+j)=xi l (n+1) j:=by
 rw[T7 l c (by rw[below];omega),pD];have:=qu (a:=pD l n) (b:=idxs l (n+1) l.length) (i:=j);rw[lX]at this;rw[this];rfl
def hv (x:List Int):Nat->Int
 | 0=>0
 | n+1=>2*hv x n+ix x n
def rz (l x:List Int) (n:Nat):Bool:=decide (hv x n<jd l n+cnt l l.length n)
def fh (l x:List Int):Nat->Nat
 | 0=>0
 | m+1=>if fh l x m=0 then(if rz l x (m+1)then m+1 else 0)else fh l x m
theorem fq {l x:List Int} {m:Nat} (h:fh l x m=0):fh l x (m+1)=if rz l x (m+1)then m+1 else 0:=by rw[fh,if_pos h]
theorem nV {l x:List Int} {m k:Nat} (h:fh l x m≠0) (b:m<=k):fh l x k=fh l x m:=by
 induction k with
 | zero=>obtain rfl:m=0:=ω
         rfl
 | succ k a=>
   by_cases e:m=k+1
   · subst e;rfl
   · have:=a ω;rw[fh,if_neg (by rw[this];exact h),this]
theorem MK (l x:List Int) (m:Nat):fh l x m<=m:=by
 induction m with
 | zero=>exact Nat.le_refl _
 | succ m a=>rw[fh];split
             · split <;> omega
             · omega
theorem Fq {l x:List Int} {k:Nat} (h:fh l x k=0):∀m,m<=k->fh l x m=0:=λm a=>by
 by_cases e:fh l x m=0
 · exact e
 · have:=nV e a;omega
theorem Ix {x:List Int} (a:bc x) (n:Nat):0<=hv x n/\hv x n<2 ^ n:=by
 have bit:∀i,0<=ix x i/\ix x i<=1:=λi=>by
  unfold ix;rw[List.getD_eq_getElem?_getD];cases e:x[i]? with
  | none=>simp
  | some v=>have:=a v (List.mem_of_getElem? e);simp;omega
 induction n with
 | zero=>simp [hv]
 | succ n b=>have:=bit n;rw[hv,Int.pow_succ];omega
def o0 (l:List Int):Nat->Nat
 | 0=>0
 | n+1=>if cnt l l.length (n+1)=0 then o0 l n else n+1
def ae (l:List Int) (x:List Int):Int×Nat×Int:=
 let m:=min x.length (o0 l 15)
 if fh l x m≠0 then(xi l (fh l x m) (hv x (fh l x m)-jd l (fh l x m)).toNat,fh l x m,0)
 else if m<o0 l 15 then(0,0,5)
 else if o0 l 15=0/\x.length=0 then(0,0,5)
 else(0,0,3)
theorem Gf (l:List Int) (n:Nat):o0 l n<=n:=by
 induction n with
 | zero=>exact Nat.le_refl _
 | succ n a=>rw[o0];split <;> omega
theorem EU (l:List Int) {a b:Nat} (h:a<=b):below l a<=below l b:=by
 induction b with
 | zero=>obtain rfl:a=0:=ω
         exact Nat.le_refl _
 | succ b c=>
   by_cases e:a=b+1
   · subst e;exact Nat.le_refl _
   · exact Nat.le_trans (c ω) (by rw[below];omega)
theorem Ol {l x:List Int} (c:bc x) {n:Nat} (h:∀m,m<=n->fh l x m=0):(jd l (n+1):Int)<=hv x (n+1):=by
 have bit:∀i,0<=ix x i:=λi=>by
  unfold ix;rw[List.getD_eq_getElem?_getD];cases e:x[i]? with
  | none=>simp
  | some v=>have:=c v (List.mem_of_getElem? e);simp;omega
 induction n with
 | zero=>simp [hv,jd];exact bit 0
 | succ n b=>
   have k:=b λm g=>h m ω
   have a:=h (n+1) (Nat.le_refl _);have f:fh l x n=0:=h n ω;rw[fq f]at a
   have h4:¬hv x (n+1)<jd l (n+1)+cnt l l.length (n+1):=by
    intro d;rw[if_pos (by simpa [rz] using d)]at a;omega
   have j:=bit (n+1);show(jd l (n+2):Int)<=2*hv x (n+1)+ix x (n+1)
   have e:jd l (n+2)=2*(jd l (n+1)+cnt l l.length (n+1)):=by simp [jd]
   rw[e];omega
def xU (l:List Int):Nat->Int
 | 0=>0
 | k+1=>if xU l k<ix l k then ix l k else xU l k
theorem OG (l:List Int) (k:Nat):0<=xU l k:=by
 induction k with
 | zero=>exact Int.le_refl _
 | succ k a=>rw[xU];split <;> omega
theorem XW (l:List Int) {i k:Nat} (h:i<k):ix l i<=xU l k:=by
 induction k with
 | zero=>omega
 | succ k a=>
   rw[xU];by_cases e:i=k
   · subst e;split <;> omega
   · have:=a ω;split <;> omega
theorem XX (l:List Int) (k:Nat):xU l k=0\/∃i,i<k/\ix l i=xU l k:=by
 induction k with
 | zero=>exact .inl rfl
 | succ k a=>
   rw[xU];by_cases e:xU l k<ix l k
   · rw[if_pos e];exact .inr ⟨k,ω,rfl⟩
   · rw[if_neg e];rcases a with h | ⟨i,h,b⟩
     · exact .inl h
     · exact .inr ⟨i,ω,b⟩
theorem Ra {l:List Int} {i k v:Nat} (h:i<k) (e:ix l i=(v:Int)):0<cnt l k v:=by
 have:=l7 h e;omega
theorem VD {l:List Int} {k v:Nat} (h:0<cnt l k v):∃i,i<k/\ix l i=(v:Int):=by
 induction k with
 | zero=>simp [cnt]at h
 | succ k a=>
   by_cases e:ix l k=(v:Int)
   · exact⟨k,ω,e⟩
   · simp only [cnt,if_neg e]at h;obtain⟨i,c,b⟩ :=a h;exact⟨i,ω,b⟩
theorem XV (l:List Int) (n:Nat):o0 l n=0\/0<cnt l l.length (o0 l n):=by
 induction n with
 | zero=>exact .inl rfl
 | succ n a=>rw[o0];split
             · exact a
             · exact .inr ω
theorem xS (l:List Int) {n m:Nat} (h:o0 l n<m) (c:m<=n):cnt l l.length m=0:=by
 induction n with
 | zero=>omega
 | succ n a=>
   rw[o0]at h;by_cases e:cnt l l.length (n+1)=0
   · rw[if_pos e]at h;by_cases b:m=n+1
     · subst b;exact e
     · exact a h ω
   · rw[if_neg e]at h;omega
theorem SP {l:List Int} (h:∀i,i<l.length->ix l i<=15):xU l l.length=(o0 l 15:Int):=by
 have a:=XV l 15;have b:=XX l l.length;have c:=OG l l.length
 have d:(o0 l 15:Int)<=xU l l.length:=by
  rcases a with a | a
  · omega
  · obtain⟨i,e,f⟩ :=VD a;have:=XW l e;omega
 rcases b with b | ⟨i,e,f⟩
 · omega
 · have k:=h i e;obtain⟨M,j⟩ :=Int.eq_ofNat_of_zero_le c;rw[j]at f⊢;have h4:=Ra e f;by_cases g:o0 l 15<M
   · have:=xS l g ω;omega
   · omega
theorem G4 (x y:List Int) {m:Nat} (h:m<=x.length):hv (x++y) m=hv x m:=by
 induction m with
 | zero=>rfl
 | succ m a=>rw[hv,hv,a ω,ny ω]
theorem Fs (l x y:List Int) {m:Nat} (h:m<=x.length):fh l (x++y) m=fh l x m:=by
 induction m with
 | zero=>rfl
 | succ m a=>rw[fh,fh,a ω];unfold rz;rw[G4 x y h]
def De (l x:List Int) (a m len:Nat):Int×Nat×Int:=
 if fh l x m≠0 then(xi l (fh l x m) (hv x (fh l x m)-jd l (fh l x m)).toNat,fh l x m,0)
 else if m<a then(0,0,5)
 else if a=0/\len=0 then(0,0,5)
 else(0,0,3)
theorem kO (l x:List Int):ae l x=De l x (o0 l 15) (min x.length (o0 l 15)) x.length:=rfl
theorem po (l x y:List Int) (h:(ae l x).2.2≠5):ae l (x++y)=ae l x:=by
 rw[kO]at h;rw[kO,kO];obtain⟨a,i⟩ :=ν (o0 l 15);rw[i]at h⊢;rw[List.length_append];by_cases c:a<=x.length
 · rw[Nat.min_eq_right c]at h⊢;rw[Nat.min_eq_right ω];unfold De at h⊢;rw[Fs l x y c];by_cases b:fh l x a=0
   · have d:¬fh l x a≠0:=ω;have f:¬a<a:=ω;simp only [if_neg d,if_neg f]at h⊢;by_cases g:a=0/\x.length=0
     · rw[if_pos g]at h;simp at h
     · rw[if_neg g,if_neg ω]
   · rw[if_pos b,if_pos b,G4 x y (Nat.le_trans (MK l x a) c)]
 · rw[Nat.min_eq_left (show x.length<=a by omega)]at h⊢;unfold De at h⊢;by_cases b:fh l x x.length=0
   · have d:¬fh l x x.length≠0:=ω;rw[if_neg d,if_pos ω]at h;simp at h
   · have f:x.length<=min (x.length+y.length) a:=ω
     have e:fh l (x++y) (min (x.length+y.length) a)=fh l x x.length:=by
      rw[nV (m:=x.length) (by rw[Fs l x y (Nat.le_refl _)];exact b) f,Fs l x y (Nat.le_refl _)]
     rw[e,if_pos b,if_pos b,G4 x y (MK l x _)]
theorem eo {l x:List Int} (h:(ae l x).2.2=0):1<=(ae l x).2.1/\(ae l x).2.1<=x.length/\(ae l x).2.1<=15:=by
 unfold ae at*;simp only at*;by_cases a:fh l x (min x.length (o0 l 15))=0
 · rw[if_neg (by simp [a])]at h
   split at h
   · simp at h
   · split at h <;> simp at h
 · rw[if_pos a];have:=MK l x (min x.length (o0 l 15));have:=Gf l 15;refine⟨?_, ?_, ?_⟩ <;> simp only <;> omega
theorem nC {l x:List Int} (h:(ae l x).2.2≠0):(ae l x).1=0/\(ae l x).2.1=0:=by
 unfold ae at*;simp only at*
 split
 · rename_i a;rw[if_pos a]at h;simp at h
 · split
   · exact⟨rfl,rfl⟩
   · split <;> exact⟨rfl,rfl⟩
theorem bK (l x:List Int):(ae l x).2.2=0\/(ae l x).2.2=3\/(ae l x).2.2=5:=by
 unfold ae;simp only
 split
 · exact .inl rfl
 · split
   · exact .inr (.inr rfl)
   · split
     · exact .inr (.inr rfl)
     · exact .inr (.inl rfl)
structure IS where
 x:List Int
 st:Nat
 last:Bool
 left:Nat
 c0:Nat
 c1:Nat
 c2:Nat
 lens:List Int
 hd:List Int
 lt:List Int
 ds:List Int
 len:Nat
 all:List Int
 rem:Nat
 kinds:List Int
 stops:List Int
 a8:List aF
def gO (x:List Int):List Int:=x.drop (x.length%8)
def num (x:List Int) (n:Nat):Nat:=(bW (x.take n)).toNat
def cY:List Int:=List.replicate 144 8++List.replicate 112 9++List.replicate 24 7++List.replicate 8 8
def dP:List Int:=List.replicate 32 5
def gG:List Nat:=[16,17,18,0,8,7,9,6,10,5,11,4,12,3,13,2,14,1,15]
def dD (l:List Int):List Int:=(List.range 19).map λs=>ix l (gG.idxOf s)
def cU (l:List Int):Bool:=l.all λv=>v==0
namespace IS
def over (s:IS):IS:=
 if s.last then { s with x:=gO s.x,st:=8,stops:=s.stops++[(s.all.length:Int)] } else { s with st:=0,stops:=s.stops++[(s.all.length:Int)] }
def emit (s:IS) (b:List Int):IS×Int:=({ s with all:=s.all++b.take s.rem,rem:=s.rem-b.length },if s.rem<b.length then 6 else 0)
def block (s:IS):IS×Int:=
 if s.x.length<3 then(s,5)
 else if num s.x 3/2=0 then({ s with last:=decide (num s.x 3%2=1),kinds:=s.kinds++[((num s.x 3/2:Nat):Int)],x:=gO (s.x.drop 3),st:=1 },0)
 else if num s.x 3/2=1 then({ s with last:=decide (num s.x 3%2=1),kinds:=s.kinds++[((num s.x 3/2:Nat):Int)],x:=s.x.drop 3,lt:=cY,ds:=dP,st:=6 },0)
 else if num s.x 3/2=2 then({ s with last:=decide (num s.x 3%2=1),kinds:=s.kinds++[((num s.x 3/2:Nat):Int)],x:=s.x.drop 3,st:=3 },0)
 else({ s with last:=decide (num s.x 3%2=1),kinds:=s.kinds++[((num s.x 3/2:Nat):Int)],x:=s.x.drop 3 },2)
def size (s:IS):IS×Int:=
 if s.x.length<32 then(s,5)
 else if num s.x 32%65536+num s.x 32/65536=65535 then({ s with x:=s.x.drop 32,left:=num s.x 32%65536,st:=2 },0)
 else({ s with x:=s.x.drop 32 },2)
def stored (s:IS):IS×Int:=
 if s.left=0 then(s.over,0)
 else if s.x.length<8 then(s,5)
 else { s with x:=s.x.drop 8,left:=s.left-1 }.emit [(num s.x 8:Int)]
def sizes (s:IS):IS×Int:=
 if s.x.length<14 then(s,5)
 else if 286<num s.x 14%32+257\/30<num s.x 14/32%32+1 then({ s with x:=s.x.drop 14 },2)
 else({ s with x:=s.x.drop 14,c0:=num s.x 14%32+257,c1:=num s.x 14/32%32+1,c2:=num s.x 14/1024+4,lens:=[],st:=4 },0)
def heads (s:IS):IS×Int:=
 if s.lens.length<s.c2 then
  if s.x.length<3 then(s,5)else({ s with x:=s.x.drop 3,lens:=s.lens++[(num s.x 3:Int)] },0)
 else if ai (dD s.lens) 7≠0\/cU s.lens=true then(s,3)
 else({ s with hd:=dD s.lens,lens:=[],st:=5 },0)
def rW (k:Int):Nat:=if k=17 then 3 else if k=18 then 7 else 2
def rB (k:Int):Nat:=if k=18 then 11 else 3
def fB (s:IS) (k:Int) (a:List Int):IS×Int:=
 if s.c0+s.c1<s.lens.length+(rB k+num a (rW k))then({ s with x:=a.drop (rW k) },2)
 else({ s with x:=a.drop (rW k),lens:=s.lens++List.replicate (rB k+num a (rW k)) (if k=16 then ix s.lens (s.lens.length-1)else 0) },0)
def length (s:IS):IS×Int:=
 if(ae s.hd s.x).2.2≠0 then(s,(ae s.hd s.x).2.2)
 else if(ae s.hd s.x).1<16 then({ s with x:=s.x.drop (ae s.hd s.x).2.1,lens:=s.lens++[(ae s.hd s.x).1] },0)
 else if(ae s.hd s.x).1=16/\s.lens.length=0 then(s,2)
 else if(s.x.drop (ae s.hd s.x).2.1).length<rW (ae s.hd s.x).1 then(s,5)
 else s.fB (ae s.hd s.x).1 (s.x.drop (ae s.hd s.x).2.1)
def lengths (s:IS):IS×Int:=
 if s.lens.length<s.c0+s.c1 then s.length
 else if ai (s.lens.take s.c0) 15≠0\/ai (s.lens.drop s.c0) 15≠0\/ix s.lens 256=0 then(s,3)
 else({ s with lt:=s.lens.take s.c0,ds:=s.lens.drop s.c0,st:=6 },0)
def token (s:IS):IS×Int:=
 if(ae s.lt s.x).2.2≠0 then(s,(ae s.lt s.x).2.2)
 else if(ae s.lt s.x).1<256 then { s with x:=s.x.drop (ae s.lt s.x).2.1,a8:=s.a8++[aF.mk (ae s.lt s.x).1 0 0] }.emit [(ae s.lt s.x).1]
 else if(ae s.lt s.x).1=256 then({ s with x:=s.x.drop (ae s.lt s.x).2.1 }.over,0)
 else if 285<(ae s.lt s.x).1 then(s,3)
 else if(s.x.drop (ae s.lt s.x).2.1).length<lE ((ae s.lt s.x).1-257).toNat then(s,5)
 else({ s with x:=(s.x.drop (ae s.lt s.x).2.1).drop (lE ((ae s.lt s.x).1-257).toNat),len:=lB ((ae s.lt s.x).1-257).toNat+num (s.x.drop (ae s.lt s.x).2.1) (lE ((ae s.lt s.x).1-257).toNat),st:=7 },0)
def text (s:IS) (a:List Int) (D:Nat):IS×Int:=
 if s.all.length<D then(s,3)
 else { s with x:=a,st:=6,a8:=s.a8++[aF.mk 0 s.len D] }.emit (again s.all D s.len)
def ak (s:IS):IS×Int:=
 if(ae s.ds s.x).2.2≠0 then(s,(ae s.ds s.x).2.2)
 else if 29<(ae s.ds s.x).1 then(s,3)
 else if(s.x.drop (ae s.ds s.x).2.1).length<dE (ae s.ds s.x).1.toNat then(s,5)
 else s.text ((s.x.drop (ae s.ds s.x).2.1).drop (dE (ae s.ds s.x).1.toNat)) (dB (ae s.ds s.x).1.toNat+num (s.x.drop (ae s.ds s.x).2.1) (dE (ae s.ds s.x).1.toNat))
def step (s:IS):IS×Int:=
 if s.st=0 then s.block
 else if s.st=1 then s.size
 else if s.st=2 then s.stored
 else if s.st=3 then s.sizes
 else if s.st=4 then s.heads
 else if s.st=5 then s.lengths
 else if s.st=6 then s.token
 else if s.st=7 then s.ak
 else(s,8)
inductive Steps:IS->IS->Prop
 | refl (s:IS):Steps s s
 | tail {s t:IS}:Steps s t->t.step.2=0->Steps s t.step.1
theorem Steps.trans {a b c:IS} (h:Steps a b) (d:Steps b c):Steps a c:=by
 induction d with
 | refl=>exact h
 | tail _ h2 ih=>exact .tail ih h2
theorem Steps.one {s:IS} (h:s.step.2=0):Steps s s.step.1:= .tail (.refl s) h
def run:Nat->IS->IS×Int
 | 0,s=>s.step
 | n+1,s=>if s.step.2=0 then run n s.step.1 else s.step
def app (s:IS) (y:List Int):IS:={ s with x:=s.x++y }
def mu (s:IS):Nat:=3*s.x.length+(if s.st=4 then 2 else if s.st=5\/s.st=2 then 1 else 0)
def fin (s:IS):IS×Int:=run s.mu s
end IS
def start (x:List Int) (most:Nat):IS:= ⟨x,0,false,0,0,0,0,[],[],[],[],0,[],most,[],[],[]⟩
section
variable {s t:IS} {x y b:List Int} {n m:Nat}
theorem ji (h:n<=x.length):num (x++y) n=num x n:=by unfold num;rw[List.take_append_of_le_length h]
theorem di (h:n<=x.length):(x++y).drop n=x.drop n++y:=List.drop_append_of_le_length h
theorem BV (h:y.length%8=0):gO (x++y)=gO x++y:=by
 unfold gO;rw[List.length_append,show(x.length+y.length)%8=x.length%8 by omega,di (Nat.mod_le _ _)]
theorem iL (x:List Int):(gO x).length=x.length/8*8:=by unfold gO;rw[List.length_drop];omega
theorem IS.ek (h:s.step.2=0):s.step.1.mu<s.mu:=by
 have t:∀s:IS,s.over.x.length<=s.x.length/\(s.over.st=0\/s.over.st=8):=λs=>by
  unfold IS.over;split
  · exact⟨by show(gO s.x).length<=_;rw[iL];omega, .inr rfl⟩
  · exact⟨Nat.le_refl _, .inl rfl⟩
 have c:∀s:IS,(s.st=0\/s.st=8\/s.st=1\/s.st=3\/s.st=6\/s.st=7)->s.mu=3*s.x.length:=λs h=>by
  unfold IS.mu;rw[if_neg ω,if_neg ω];rfl
 have d:∀s:IS,s.mu<=3*s.x.length+2/\3*s.x.length<=s.mu:=λs=>by
  unfold IS.mu;constructor <;> (split;omega;split <;> omega)
 unfold IS.step at h⊢;by_cases r:s.st=0
 · rw[if_pos r]at h⊢;unfold IS.block at h⊢;by_cases b:s.x.length<3
   · rw[if_pos b]at h;simp at h
   rw[if_neg b]at h⊢;have q:=c s (.inl r);have w:=iL (s.x.drop 3);have f:(s.x.drop 3).length=s.x.length-3:=List.length_drop
   split at h <;> rename_i n
   · rw[if_pos n,c _ σ];simp only [q];omega
   rw[if_neg n]
   split at h <;> rename_i g
   · rw[if_pos g,c _ σ];simp only [q];omega
   rw[if_neg g]
   split at h <;> rename_i p
   · rw[if_pos p,c _ σ];simp only [q];omega
   · simp at h
 rw[if_neg r]at h⊢;by_cases n:s.st=1
 · rw[if_pos n]at h⊢;unfold IS.size at h⊢;by_cases b:s.x.length<32
   · rw[if_pos b]at h;simp at h
   rw[if_neg b]at h⊢
   split at h <;> rename_i g
   · rw[if_pos g];have k:=(d s).2;have f:(s.x.drop 32).length=s.x.length-32:=List.length_drop;refine Nat.lt_of_le_of_lt (d _).1 ?_;show 3*(s.x.drop 32).length+2<_
     omega
   · simp at h
 rw[if_neg n]at h⊢;by_cases g:s.st=2
 · rw[if_pos g]at h⊢;unfold IS.stored at h⊢;by_cases u:s.left=0
   · rw[if_pos u];have a:=t s;have k:s.over.mu=_:=c s.over ω;have o:s.mu=3*s.x.length+1:=by unfold IS.mu;rw[if_neg ω,if_pos ω]
     show s.over.mu<s.mu
     omega
   rw[if_neg u]at h⊢;by_cases b:s.x.length<8
   · rw[if_pos b]at h;simp at h
   rw[if_neg b];unfold IS.emit;have a:=(d { { s with x:=s.x.drop 8,left:=s.left-1 } with all:=s.all++[(num s.x 8:Int)].take s.rem,rem:=s.rem - [(num s.x 8:Int)].length }).1;have k:=(d s).2;have f:(s.x.drop 8).length=s.x.length-8:=List.length_drop;simp only at a⊢;omega
 rw[if_neg g]at h⊢;by_cases p:s.st=3
 · rw[if_pos p]at h⊢;unfold IS.sizes at h⊢;by_cases b:s.x.length<14
   · rw[if_pos b]at h;simp at h
   rw[if_neg b]at h⊢
   split at h <;> rename_i h4
   · simp at h
   rw[if_neg h4];have a:=(d { s with x:=s.x.drop 14,c0:=num s.x 14%32+257,c1:=num s.x 14/32%32+1,c2:=num s.x 14/1024+4,lens:=[],st:=4 }).1;have k:=(d s).2;have f:(s.x.drop 14).length=s.x.length-14:=List.length_drop;simp only at a⊢;omega
 rw[if_neg p]at h⊢;by_cases h4:s.st=4
 · rw[if_pos h4]at h⊢;unfold IS.heads at h⊢;have o:s.mu=3*s.x.length+2:=by unfold IS.mu;rw[if_pos h4]
   by_cases l:s.lens.length<s.c2
   · rw[if_pos l]at h⊢;by_cases b:s.x.length<3
     · rw[if_pos b]at h;simp at h
     rw[if_neg b];have a:=(d { s with x:=s.x.drop 3,lens:=s.lens++[(num s.x 3:Int)] }).1;have f:(s.x.drop 3).length=s.x.length-3:=List.length_drop;simp only at a⊢;omega
   rw[if_neg l]at h⊢
   split at h <;> rename_i h5
   · simp at h
   rw[if_neg h5];have:IS.mu { s with hd:=dD s.lens,lens:=[],st:=5 }=3*s.x.length+1:=by unfold IS.mu;rw[if_neg σ,if_pos σ]
   simp only [this];omega
 rw[if_neg h4]at h⊢;by_cases h5:s.st=5
 · rw[if_pos h5]at h⊢;unfold IS.lengths at h⊢;have k:=d s;by_cases l:s.lens.length<s.c0+s.c1
   · rw[if_pos l]at h⊢;unfold IS.length at h⊢;by_cases e:(ae s.hd s.x).2.2≠0
     · rw[if_pos e]at h;exact absurd h e
     have hp:=eo (Decidable.not_not.1 e);rw[if_neg e]at h⊢;have f:(s.x.drop (ae s.hd s.x).2.1).length=s.x.length-(ae s.hd s.x).2.1:=List.length_drop
     split at h <;> rename_i h6
     · rw[if_pos h6];have a:=(d { s with x:=s.x.drop (ae s.hd s.x).2.1,lens:=s.lens++[(ae s.hd s.x).1] }).1;simp only at a⊢;have o:s.mu=3*s.x.length+1:=by unfold IS.mu;rw[if_neg ω,if_pos ω]
       omega
     rw[if_neg h6]
     split at h <;> rename_i h7
     · simp at h
     rw[if_neg h7]
     split at h <;> rename_i j
     · simp at h
     rw[if_neg j];unfold IS.fB at h⊢
     split at h <;> rename_i m
     · simp at h
     rw[if_neg m];have v:((s.x.drop (ae s.hd s.x).2.1).drop (IS.rW (ae s.hd s.x).1)).length<=(s.x.drop (ae s.hd s.x).2.1).length:=by rw[List.length_drop];omega
     have a:=(d { s with x:=(s.x.drop (ae s.hd s.x).2.1).drop (IS.rW (ae s.hd s.x).1),lens:=s.lens++List.replicate (IS.rB (ae s.hd s.x).1+num (s.x.drop (ae s.hd s.x).2.1) (IS.rW (ae s.hd s.x).1)) (if(ae s.hd s.x).1=16 then ix s.lens (s.lens.length-1)else 0) }).1;simp only at a⊢;have o:s.mu=3*s.x.length+1:=by unfold IS.mu;rw[if_neg ω,if_pos ω]
     omega
   rw[if_neg l]at h⊢
   split at h <;> rename_i h6
   · simp at h
   rw[if_neg h6];have a:IS.mu { s with lt:=s.lens.take s.c0,ds:=s.lens.drop s.c0,st:=6 }=3*s.x.length:=c _ σ;have o:s.mu=3*s.x.length+1:=by unfold IS.mu;rw[if_neg ω,if_pos ω]
   simp only [a];omega
 rw[if_neg h5]at h⊢;by_cases h6:s.st=6
 · rw[if_pos h6]at h⊢;unfold IS.token at h⊢;have k:s.mu=3*s.x.length:=c s ω;by_cases e:(ae s.lt s.x).2.2≠0
   · rw[if_pos e]at h;exact absurd h e
   have hp:=eo (Decidable.not_not.1 e);rw[if_neg e]at h⊢;have f:(s.x.drop (ae s.lt s.x).2.1).length=s.x.length-(ae s.lt s.x).2.1:=List.length_drop
   split at h <;> rename_i h7
   · rw[if_pos h7];unfold IS.emit;rw[c _ (by simp [h6])];simp only;omega
   rw[if_neg h7]
   split at h <;> rename_i j
   · rw[if_pos j];have a:=t { s with x:=s.x.drop (ae s.lt s.x).2.1 };refine Nat.lt_of_le_of_lt (Nat.le_of_eq (c _ ?_)) ?_
     · exact a.2.elim .inl (λh=> .inr (.inl h))
     · have o:(IS.over { s with x:=s.x.drop (ae s.lt s.x).2.1 }).x.length<=(s.x.drop (ae s.lt s.x).2.1).length:=a.1;simp only;omega
   rw[if_neg j]
   split at h <;> rename_i m
   · simp at h
   rw[if_neg m]
   split at h <;> rename_i i
   · simp at h
   rw[if_neg i];have v:((s.x.drop (ae s.lt s.x).2.1).drop (lE ((ae s.lt s.x).1-257).toNat)).length<=(s.x.drop (ae s.lt s.x).2.1).length:=by rw[List.length_drop];omega
   rw[c _ σ];simp only;omega
 rw[if_neg h6]at h⊢;by_cases h7:s.st=7
 · rw[if_pos h7]at h⊢;unfold IS.ak at h⊢;have k:s.mu=3*s.x.length:=c s ω;by_cases e:(ae s.ds s.x).2.2≠0
   · rw[if_pos e]at h;exact absurd h e
   have hp:=eo (Decidable.not_not.1 e);rw[if_neg e]at h⊢;have f:(s.x.drop (ae s.ds s.x).2.1).length=s.x.length-(ae s.ds s.x).2.1:=List.length_drop
   split at h <;> rename_i j
   · simp at h
   rw[if_neg j]
   split at h <;> rename_i m
   · simp at h
   rw[if_neg m];unfold IS.text at h⊢
   split at h <;> rename_i i
   · simp at h
   rw[if_neg i];have v:((s.x.drop (ae s.ds s.x).2.1).drop (dE (ae s.ds s.x).1.toNat)).length<=(s.x.drop (ae s.ds s.x).2.1).length:=by rw[List.length_drop];omega
   unfold IS.emit;rw[c _ σ];simp only;omega
 · rw[if_neg h7]at h;simp at h
theorem IS.Po (h:(IS.run n s).2≠0):IS.run (n+1) s=IS.run n s:=by
 induction n generalizing s with
 | zero=>
   show(if s.step.2=0 then s.step.1.step else s.step)=s.step
   exact if_neg h
 | succ n a=>
   rw[IS.run]at h⊢;by_cases e:s.step.2=0
   · rw[if_pos e]at h⊢;rw[a h];conv=>rhs;rw[IS.run,if_pos e]
   · rw[if_neg e]at h⊢;conv=>rhs;rw[IS.run,if_neg e]
theorem IS.Pn (h:(IS.run n s).2≠0) (b:n<=m):IS.run m s=IS.run n s:=by
 induction m with
 | zero=>obtain rfl:n=0:=ω
         rfl
 | succ m a=>
   by_cases e:n=m+1
   · subst e;rfl
   · have:=a ω;rw[IS.Po (by rw[this];exact h),this]
theorem IS.T5 (h:s.mu<=n):(IS.run n s).2≠0:=by
 induction n generalizing s with
 | zero=>
   intro e;have:=IS.ek (s:=s) e;omega
 | succ n a=>
   rw[IS.run];by_cases e:s.step.2=0
   · rw[if_pos e];exact a (by have:=IS.ek e;omega)
   · rw[if_neg e];exact e
theorem IS.zh (s:IS):s.fin.2≠0:=IS.T5 (Nat.le_refl _)
theorem IS.zi (h:(IS.run n s).2≠0):IS.run n s=s.fin:=by
 rcases Nat.le_total n s.mu with a | a
 · exact(IS.Pn h a).symm
 · exact IS.Pn (IS.zh s) a
theorem IS.dn (h:s.step.2≠0):s.fin=s.step:=(IS.zi (n:=0) h).symm
theorem IS.Cq (h:s.step.2=0):s.step.1.fin=s.fin:=by
 have e:IS.run (s.step.1.mu+1) s=s.step.1.fin:=by rw[IS.run,if_pos h];rfl
 rw[<-e];exact IS.zi (by rw[e];exact IS.zh _)
theorem IS.Steps.iv (h:IS.Steps s t):t.fin=s.fin:=by
 induction h with
 | refl=>rfl
 | tail _ h2 ih=>rw[IS.Cq h2,ih]
theorem IS.ft (s:IS):∃t,IS.Steps s t/\t.step=s.fin:=by
 have:∀n s,s.mu<=n->∃t,IS.Steps s t/\t.step=s.fin:=by
  intro n
  induction n with
  | zero=>
    intro s h;refine⟨s, .refl s,(IS.dn ?_).symm⟩;intro e;have:=IS.ek (s:=s) e;omega
  | succ n a=>
    intro s h;by_cases e:s.step.2=0
    · obtain⟨t,c,b⟩ :=a s.step.1 (by have:=IS.ek e;omega);exact⟨t,(IS.Steps.one e).trans c,by rw[b,IS.Cq e]⟩
    · exact⟨s, .refl s,(IS.dn e).symm⟩
 exact this _ s (Nat.le_refl _)
end
end Go.Proofs.YtddhegejmkgmjaaGreat
