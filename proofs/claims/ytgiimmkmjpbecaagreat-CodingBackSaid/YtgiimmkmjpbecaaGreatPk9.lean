/-
  part
-/
import Derived.Test.YtgiimmkmjpbecaaGreatRev
set_option linter.unusedVariables false
set_option maxRecDepth 100000
set_option maxHeartbeats 4000000
namespace Go.Proofs.YtgiimmkmjpbecaaGreat
open Go Go.RowKit
theorem Sj (x:ag) {n:Nat} (h:n<x.length):x.take (n+1)=x.take n++[ix x n]:=by
 rw[bc h];congr 2;simp [ix,h]
theorem VY (x:ag) {n:Nat} (h:n<=x.length):hv x n=fL (x.take n).reverse:=by
 induction n with
 | zero=>rfl
 | succ n a=>
   rw[Sj x ω,List.reverse_append,hv,a ω];show _=ix x n+2*fL (x.take n).reverse;omega
theorem dH.rev {l:ag} (h:dH l):dH l.reverse:=λx a=>h x (List.mem_reverse.1 a)
theorem BS (l:ag) (s:Nat):cN l s=(dt (fj l s) (ix l s).toNat).reverse:=by
 have h:=vM (dH.rev (dH.dt (fj l s) (ix l s).toNat));rw[gP,aR]at h;exact h
theorem fZ (l:ag) (s:Nat):(cN l s).length=(ix l s).toNat:=by unfold cN;rw[aR]
theorem dH.sym (l:ag) (s:Nat):dH (cN l s):=dH.dt _ _
theorem kV {l:ag} {most:Int} (h:bg l most=0):l.length<=288/\(∀i,i<l.length->0<=ix l i/\ix l i<=15)/\sumTo l l.length<=32768:=by
 unfold bg at h;split at h
 · simp at h
 split at h
 · simp at h
 split at h
 · simp at h
 rename_i c a b
 refine⟨ω, ?_,ω⟩;have:yI l most l.length=true:=by simpa using a
 have h4:∀i,i<l.length->0<=ix l i/\ix l i<=most:=by simpa [yI] using this
 exact λi hi=> ⟨(h4 i hi).1,τ ((h4 i hi).2)⟩
theorem a11 {l:ag} {m:Nat} (b:1<=m) (a:m<=15):(nJ l m+cnt l l.length m)*qJ m=Hh l l.length m:=by
 obtain⟨u,rfl⟩ :∃u,m=u+1:= ⟨m-1,ω⟩;rw[eo,Ph l (u+1) b a];rfl
theorem NL {l:ag} {s N m:Nat} (x:ag) (e:ix l s=N) (g:1<=N) (f:N<=15) (b:s<l.length) (d:sumTo l l.length<=32768) (a:x.take N=cN l s) (c:m<=N) (h:N<=x.length):hv x m=((fj l s/2 ^ (N-m):Nat):Int):=by
 have hf:=Qh g f e b d;rw[VY x ω];have:x.take m=(cN l s).take m:=by rw[<-a,iC,bF c]
 rw[this,BS,e,aY,List.reverse_take,List.reverse_reverse,gP,aR,tz (dH.dt _ _),gJ];rw[bu ω (by rw[<-kU];omega)];rw[Int.natCast_ediv,kU]
theorem Kl {l:ag} {s N:Nat} (x:ag) (e:ix l s=N) (j:1<=N) (f:N<=15) (g:s<l.length) (p:sumTo l l.length<=32768) (k:x.take N=cN l s) (o:N<=x.length):aK l x=((s:Int),N,0):=by
 have r:=ql j f e;have v:=qj g e
 have n:∀m,m<N->fh l x m=0:=by
  intro m;induction m with
  | zero=>intro _;rfl
  | succ m t=>
    intro q;rw[kf (t ω),a8];unfold xg;rw[NL x e j f g p k (bE q) o];have a:=a11 (l:=l) (show 1<=m+1 by omega) ω
    have b:Hh l l.length (m+1)<=placeOf l s:=by
     rw[Bo j f e];have:=Kr l l.length (show m+1<=N-1 by omega);omega
    unfold placeOf at b;rw[e,aY,<-a,Pp (bE q) f,<-gY]at b;have c:=Nat.le_of_mul_le_mul_right b (xx N).1;have d:=(Nat.le_div_iff_mul_le (fR (N-(m+1)))).2 c;simp only [decide_eq_true_eq];omega
 have i:fh l x N=N:=by
  obtain⟨u,rfl⟩ :∃u,N=u+1:= ⟨N-1,ω⟩;rw[kf (n u ω),aa];unfold xg;rw[NL x e j f g p k (af _) o,dL,Nat.pow_zero,Nat.div_one,r];simp only [decide_eq_true_eq];omega
 have w:N<=tu l 15:=by
  rcases aU (tu l 15) N with h | h
  · have:=E8 l h f;omega
  exact h
 have hF:fh l x (min x.length (tu l 15))=N:=by rw[sV (m:=N) (by rw[i];omega) ω,i]
 rw[pP];unfold Jz;rw[hF,aa ω,NL x e j f g p k (af _) o,dL,Nat.pow_zero,Nat.div_one,r];have:(((nJ l N+cnt l s N:Nat):Int)-(nJ l N:Int)).toNat=cnt l s N:=ω;rw[this];unfold D6;rw[FQ l g e]
theorem Wv {l x:ag} (g:dH x) (h:(aK l x).2.2=0):∃s N:Nat,aK l x=((s:Int),N,0)/\s<l.length/\ix l s=N/\1<=N/\N<=15/\N<=x.length/\x.take N=cN l s:=by
 have hp:=js h;rw[pP]at h hp⊢;obtain⟨F,hF⟩ :=ν (fh l x (min x.length (tu l 15)));unfold Jz at h hp⊢;rw[hF]at h hp⊢;by_cases hf:F=0
 · rw[a8 ω]at h;split at h
   · simp at h
   split at h <;> simp at h
 rw[aa hf]at hp⊢;simp only at hp
 have hit:xg l x F=true/\∀m,m<F->fh l x m=0:=by
  have d:∀M,fh l x M=F->xg l x F=true/\∀m,m<F->fh l x m=0:=by
   intro M;induction M with
   | zero=>intro b;exact absurd b.symm hf
   | succ M o=>
     intro b;by_cases e:fh l x M=0
     · rw[kf e]at b;split at b
       · rename_i t
         subst b;exact⟨t,λm r=>LQ e m ω⟩
       omega
     exact o ((sV e (ft M)).symm.trans b)
  exact d _ hF
 obtain⟨p,rfl⟩ :∃p,F=p+1:= ⟨F-1,ω⟩;have w:=VX g (n:=p) (λm r=>hit.2 m ω);have c:=hit.1;unfold xg at c;simp only [decide_eq_true_eq]at c;obtain⟨J,y⟩ :=aF (show 0<=hv x (p+1)-(nJ l (p+1):Int) by omega);obtain⟨s,f,a,hs3,q⟩ :=DX l (n:=p+1) (j:=J) (k:=l.length) ω;refine⟨s,p+1, ?_,f,a,ω,hp.2.2,hp.2.1, ?_⟩
 · have:(hv x (p+1)-(nJ l (p+1):Int)).toNat=J:=ω;rw[this];unfold D6;rw[q]
 have u:=ql (show 1<=p+1 by omega) hp.2.2 a;rw[BS,a,aY,u,hs3];have v:((nJ l (p+1)+J:Nat):Int)=fL (x.take (p+1)).reverse:=by rw[<-VY x hp.2.1];omega
 have i:=vM (dH.rev (g.ua (p+1)));rw[gP,aD,bF hp.2.1]at i;rw[v,i,List.reverse_reverse]
def E0 (B:Nat->Nat) (n:Int):Nat->Nat
 | 0=>0
 | t+1=>if((B (t+1):Nat):Int)<=n then t+1 else E0 B n t
theorem uu {B:Nat->Nat} {n:Int} (d:((B 0:Nat):Int)<=n):∀a,rM B a n (E0 B n a)
 | 0=> ⟨af _,d,λi c b=>by simp [E0]at c;omega⟩
 | t+1=>by
   unfold E0;by_cases h:((B (t+1):Nat):Int)<=n
   · rw[aa h];exact⟨af _,h,λi c b=>ω⟩
   rw[a8 h];obtain⟨c,b,f⟩ :=uu d t;refine⟨ω,b,λi h4 h5=> ?_⟩;by_cases e:i=t+1
   · subst e;omega
   exact f i h4 ω
def jq (n:Int):Nat:=E0 lB n 28
def fe (n:Int):Nat:=E0 dB n 29
theorem mC {n:Int} (h:3<=n):rM lB 28 n (jq n):=uu (by show((3:Nat):Int)<=n;omega) 28
theorem kM {n:Int} (h:1<=n):rM dB 29 n (fe n):=uu (by show((1:Nat):Int)<=n;omega) 29
theorem zG {n:Int} {v:Value} (h:kK lB lE 3 258 257 28 n v) (b:3<=n/\n<=258):v= .tuple #[.int .i64 (257+((jq n:Nat):Int)), .int .i64 ((lE (jq n):Nat):Int), .int .i64 (n-((lB (jq n):Nat):Int))]:=by
 rcases h with ⟨h,_⟩ | ⟨_,j,a,h⟩
 · omega
 rw[h,a.uniq (mC b.1)]
theorem wU {n:Int} {v:Value} (h:kK dB dE 1 32768 0 29 n v) (b:1<=n/\n<=32768):v= .tuple #[.int .i64 ((fe n:Nat):Int), .int .i64 ((dE (fe n):Nat):Int), .int .i64 (n-((dB (fe n):Nat):Int))]:=by
 rcases h with ⟨h,_⟩ | ⟨_,j,a,h⟩
 · omega
 rw[h,a.uniq (kM b.1),Int.zero_add]
def sM (lit bn:ag) (t:bY):ag:=
 if t.len=0 then cN lit t.lit.toNat
 else cN lit (257+jq t.len)++dt (t.len-((lB (jq t.len):Nat):Int)) (lE (jq t.len))++cN bn (fe t.bn)++dt (t.bn-((dB (fe t.bn):Nat):Int)) (dE (fe t.bn))
def iZ (lit bn:ag) (l:List bY):ag:=l.flatMap (sM lit bn)
def ke (lit bn:ag) (l:List bY):ag:=iZ lit bn l++cN lit 256
theorem Ew (lit bn:ag) (a b:List bY):iZ lit bn (a++b)=iZ lit bn a++iZ lit bn b:=by simp [iZ]
theorem Ex (lit bn:ag) (t:bY):iZ lit bn [t]=sM lit bn t:=by simp [iZ]
theorem wj {l:List bY} {k:Nat} (h:k<l.length):l.take (k+1)=l.take k++[dM l k]:=by
 rw[bc h];simp [dM,h]
theorem pd {l:ag} (h:∀i,i<l.length->0<=ix l i/\ix l i<=15) (s:Nat):(cN l s).length<=15:=by
 rw[fZ];by_cases e:s<l.length
 · have:=h s e;omega
 have:ix l s=0:=by unfold ix;rw[au,bq ω];rfl
 rw[this];exact aG _
theorem sN {t:bY} (h:cn t) (a:t.len≠0):(3<=t.len/\t.len<=258)/\(1<=t.bn/\t.bn<=32768)/\jq t.len<=28/\fe t.bn<=29:=by
 unfold cn at h;rw[a8 a]at h;exact⟨⟨h.2.1,h.2.2.1⟩, ⟨h.2.2.2.1,h.2.2.2.2⟩,(mC h.2.1).1,(kM h.2.2.2.1).1⟩
theorem a3R {lit bn:ag} (b:∀i,i<lit.length->0<=ix lit i/\ix lit i<=15) (hd:∀i,i<bn.length->0<=ix bn i/\ix bn i<=15) {t:bY} (h:cn t):(sM lit bn t).length<=48:=by
 unfold sM;by_cases a:t.len=0
 · rw[aa a];have:=pd b t.lit.toNat;omega
 rw[a8 a];obtain⟨_,_,d,h4⟩ :=sN h a;have h5:=(Jm (jq t.len) ω).2.2;have h6:=(LF (fe t.bn) ω).2.2;have h7:=pd b (257+jq t.len);have c:=pd hd (fe t.bn);rw[ae,ae,ae,aR,aR];omega
theorem zo {lit bn:ag} (a:∀i,i<lit.length->0<=ix lit i/\ix lit i<=15) (hd:∀i,i<bn.length->0<=ix bn i/\ix bn i<=15):∀l:List bY,(∀t∈l,cn t)->(iZ lit bn l).length<=48*l.length
 | [],_=>by simp [iZ]
 | t::l,h=>by
   have d:=a3R a hd (h t aI);have c:=zo a hd l λu b=>h u (aJ _ b);show(sM lit bn t++iZ lit bn l).length<=_;rw[ae,br];omega
section
variable {s t:IS} {x y b:ag} {n m:Nat}
theorem IS.JE (s:IS) (h:y.length%8=0):(s.app y).over=s.over.app y:=by
 unfold IS.over;have a:(s.app y).last=s.last:=rfl;rw[a];split
 · show IS.mk (ly (s.x++y)) _ _ _ _ _ _ _ _ _ _ _ _ _ _ _ _=_;rw[Hy h];rfl
 rfl
theorem IS.eK (a:s.step.2≠5) (p:y.length%8=0):(s.app y).step=(s.step.1.app y,s.step.2):=by
 have b:∀x:ag,(x++y).length=x.length+y.length:=λx=>ae;have q:(s.app y).st=s.st:=rfl;have f:(s.app y).x=s.x++y:=rfl;unfold IS.step at a⊢;rw[q];by_cases v:s.st=0
 · simp only [if_pos v]at a⊢;unfold IS.block at a⊢;by_cases c:s.x.length<3
   · rw[aa c]at a;simp at a
   rw[a8 c,a8 (by rw[f,b];omega),f,nP ω,ir ω,Hy p];split
   · rfl
   split
   · rfl
   split
   · rfl
   rfl
 simp only [if_neg v]at a⊢;by_cases u:s.st=1
 · simp only [if_pos u]at a⊢;unfold IS.size at a⊢;by_cases c:s.x.length<32
   · rw[aa c]at a;simp at a
   rw[a8 c,a8 (by rw[f,b];omega),f,nP ω,ir ω];split
   · rfl
   rfl
 simp only [if_neg u]at a⊢;by_cases t:s.st=2
 · simp only [if_pos t]at a⊢;unfold IS.stored at a⊢;have j:(s.app y).left=s.left:=rfl;rw[j];by_cases h:s.left=0
   · rw[aa h,aa h,IS.JE s p]
   rw[a8 h]at a;rw[a8 h,a8 h];by_cases c:s.x.length<8
   · rw[aa c]at a;simp at a
   rw[a8 c,a8 (by rw[f,b];omega),f,nP ω,ir ω];rfl
 simp only [if_neg t]at a⊢;by_cases r:s.st=3
 · simp only [if_pos r]at a⊢;unfold IS.sizes at a⊢;by_cases c:s.x.length<14
   · rw[aa c]at a;simp at a
   rw[a8 c,a8 (by rw[f,b];omega),f,nP ω,ir ω];split
   · rfl
   rfl
 simp only [if_neg r]at a⊢;by_cases h4:s.st=4
 · simp only [if_pos h4]at a⊢;unfold IS.heads at a⊢;have j:(s.app y).lens=s.lens:=rfl;have g:(s.app y).c2=s.c2:=rfl;rw[j,g];by_cases g:s.lens.length<s.c2
   · rw[aa g]at a;rw[aa g,aa g];by_cases c:s.x.length<3
     · rw[aa c]at a;simp at a
     rw[a8 c,a8 (by rw[f,b];omega),f,nP ω,ir ω];rfl
   rw[a8 g,a8 g];split
   · rfl
   rfl
 simp only [if_neg h4]at a⊢;by_cases h5:s.st=5
 · simp only [if_pos h5]at a⊢;unfold IS.lengths at a⊢;have j:(s.app y).lens=s.lens:=rfl;have n:(s.app y).c0=s.c0:=rfl;have m:(s.app y).c1=s.c1:=rfl;have l:(s.app y).hd=s.hd:=rfl;rw[j,n,m];by_cases g:s.lens.length<s.c0+s.c1
   · rw[aa g]at a;rw[aa g,aa g];unfold IS.length at a⊢;rw[l,f,j]
     have k:(aK s.hd s.x).2.2≠5:=by
      intro e;rw[aa (by rw[e];simp)]at a;exact a e
     rw[uz _ _ _ k];by_cases e:(aK s.hd s.x).2.2≠0
     · rw[aa e,aa e]
     have hp:=js (bK.1 e);rw[a8 e]at a;rw[a8 e,a8 e,ir ω];by_cases h6:(aK s.hd s.x).1<16
     · rw[aa h6,aa h6];rfl
     rw[a8 h6]at a;rw[a8 h6,a8 h6];by_cases h7:(aK s.hd s.x).1=16/\s.lens.length=0
     · rw[aa h7,aa h7]
     rw[a8 h7]at a;rw[a8 h7,a8 h7];by_cases d:(s.x.drop (aK s.hd s.x).2.1).length<IS.rW (aK s.hd s.x).1
     · rw[aa d]at a;simp at a
     rw[a8 d,a8 (by rw[b];omega)];unfold IS.kx;rw[nP ω,ir ω,j,n,m];split
     · rfl
     rfl
   rw[a8 g,a8 g];split
   · rfl
   rfl
 simp only [if_neg h5]at a⊢;by_cases h6:s.st=6
 · simp only [if_pos h6]at a⊢;unfold IS.token at a⊢;have l:(s.app y).lt=s.lt:=rfl;rw[l,f]
   have k:(aK s.lt s.x).2.2≠5:=by
    intro e;rw[aa (by rw[e];simp)]at a;exact a e
   rw[uz _ _ _ k];by_cases e:(aK s.lt s.x).2.2≠0
   · rw[aa e,aa e]
   have hp:=js (bK.1 e);rw[a8 e]at a;rw[a8 e,a8 e,ir ω];by_cases h7:(aK s.lt s.x).1<256
   · rw[aa h7,aa h7];rfl
   rw[a8 h7]at a;rw[a8 h7,a8 h7];by_cases d:(aK s.lt s.x).1=256
   · rw[aa d,aa d];have:=IS.JE { s with x:=s.x.drop (aK s.lt s.x).2.1 } p;show(IS.over _,_)=_;rw[<-this];rfl
   rw[a8 d]at a;rw[a8 d,a8 d];by_cases o:285<(aK s.lt s.x).1
   · rw[aa o,aa o]
   rw[a8 o]at a;rw[a8 o,a8 o];by_cases i:(s.x.drop (aK s.lt s.x).2.1).length<lE ((aK s.lt s.x).1-257).toNat
   · rw[aa i]at a;simp at a
   rw[a8 i,a8 (by rw[b];omega),nP ω,ir ω];rfl
 simp only [if_neg h6]at a⊢;by_cases h7:s.st=7
 rotate_left
 · simp only [if_neg h7]
 simp only [if_pos h7]at a⊢;unfold IS.bn at a⊢;have l:(s.app y).ds=s.ds:=rfl;rw[l,f]
 have k:(aK s.ds s.x).2.2≠5:=by
  intro e;rw[aa (by rw[e];simp)]at a;exact a e
 rw[uz _ _ _ k];by_cases e:(aK s.ds s.x).2.2≠0
 · rw[aa e,aa e]
 have hp:=js (bK.1 e);rw[a8 e]at a;rw[a8 e,a8 e,ir ω];by_cases d:29<(aK s.ds s.x).1
 · rw[aa d,aa d]
 rw[a8 d]at a;rw[a8 d,a8 d];by_cases i:(s.x.drop (aK s.ds s.x).2.1).length<dE (aK s.ds s.x).1.toNat
 · rw[aa i]at a;simp at a
 rw[a8 i,a8 (by rw[b];omega),nP ω,ir ω];unfold IS.text;have w:(s.app y).all=s.all:=rfl;rw[w];split
 · rfl
 rfl
theorem IS.Steps.app (h:IS.Steps s t) (a:y.length%8=0):IS.Steps (s.app y) (t.app y):=by
 induction h with
 | refl=>exact .refl _
 | @tail t h1 h2 ih=>
   have e:=IS.eK (s:=t) (y:=y) (by rw[h2];decide) a;have b:(t.app y).step.2=0:=by rw[e];exact h2
   have h4:=IS.Steps.tail ih b
   rwa [e]at h4
def IS.cap (s:IS) (m:Nat):IS:={ s with rem:=m }
theorem IS.iU (s:IS):s.emit []=(s,0):=by
 unfold IS.emit;rw[List.take_nil,ak,a8 σ];rfl
theorem IS.Kb (s:IS):∃(t:IS) (b:ag) (e:Int),t.all=s.all/\e≠6/\∀m,(s.cap m).step=if e=0 then(t.cap m).emit b else(t.cap m,e):=by
 unfold IS.step;by_cases z:s.st=0
 · have:∀m,(s.cap m).st=0:=λm=>z;simp only [this,if_true];unfold IS.block;by_cases a:s.x.length<3
   · exact⟨s,[],5,rfl,δ,λm=>aa a⟩
   have f:∀m,(s.cap m).x=s.x:=λm=>rfl;simp only [f,if_neg a];by_cases j:num s.x 3/2=0
   · exact⟨{ s with last:=decide (num s.x 3%2=1),kinds:=s.kinds++[((num s.x 3/2:Nat):Int)],x:=ly (s.x.drop 3),st:=1 },[],0,rfl,δ,λm=>by rw[aa j,aa rfl,IS.iU];rfl⟩
   by_cases g:num s.x 3/2=1
   · exact⟨{ s with last:=decide (num s.x 3%2=1),kinds:=s.kinds++[((num s.x 3/2:Nat):Int)],x:=s.x.drop 3,lt:=ij,ds:=iV,st:=6 },[],0,rfl,δ,λm=>by rw[a8 j,aa g,aa rfl,IS.iU];rfl⟩
   by_cases q:num s.x 3/2=2
   · exact⟨{ s with last:=decide (num s.x 3%2=1),kinds:=s.kinds++[((num s.x 3/2:Nat):Int)],x:=s.x.drop 3,st:=3 },[],0,rfl,δ,λm=>by rw[a8 j,a8 g,aa q,aa rfl,IS.iU];rfl⟩
   exact⟨{ s with last:=decide (num s.x 3%2=1),kinds:=s.kinds++[((num s.x 3/2:Nat):Int)],x:=s.x.drop 3 },[],2,rfl,δ,λm=>by rw[a8 j,a8 g,a8 q,a8 δ];rfl⟩
 have J:∀m,¬(s.cap m).st=0:=λm=>z;simp only [if_neg (J _)];have f:∀m,(s.cap m).x=s.x:=λm=>rfl;by_cases j:s.st=1
 · have:∀m,(s.cap m).st=1:=λm=>j;simp only [this,if_true];unfold IS.size;simp only [f];by_cases a:s.x.length<32
   · exact⟨s,[],5,rfl,δ,λm=>aa a⟩
   simp only [if_neg a];by_cases g:num s.x 32%65536+num s.x 32/65536=65535
   · exact⟨{ s with x:=s.x.drop 32,left:=num s.x 32%65536,st:=2 },[],0,rfl,δ,λm=>by rw[aa g,aa rfl,IS.iU];rfl⟩
   exact⟨{ s with x:=s.x.drop 32 },[],2,rfl,δ,λm=>by rw[a8 g,a8 δ];rfl⟩
 have I:∀m,¬(s.cap m).st=1:=λm=>j;simp only [if_neg (I _)]
 have y:∀s:IS,∀m,(s.cap m).over=s.over.cap m:=λs m=>by
  unfold IS.over;have:(s.cap m).last=s.last:=rfl;rw[this];split <;> rfl
 have k:∀s:IS,s.over.all=s.all:=λs=>by unfold IS.over;split <;> rfl
 by_cases g:s.st=2
 · have:∀m,(s.cap m).st=2:=λm=>g;simp only [this,if_true];unfold IS.stored;have v:∀m,(s.cap m).left=s.left:=λm=>rfl;simp only [f,v];by_cases v:s.left=0
   · exact⟨s.over,[],0,k s,δ,λm=>by rw[aa v,aa rfl,IS.iU,y]⟩
   simp only [if_neg v];by_cases a:s.x.length<8
   · exact⟨s,[],5,rfl,δ,λm=>aa a⟩
   exact⟨{ s with x:=s.x.drop 8,left:=s.left-1 },[(num s.x 8:Int)],0,rfl,δ,λm=>by rw[a8 a,aa rfl];rfl⟩
 have H:∀m,¬(s.cap m).st=2:=λm=>g;simp only [if_neg (H _)];by_cases q:s.st=3
 · have:∀m,(s.cap m).st=3:=λm=>q;simp only [this,if_true];unfold IS.sizes;simp only [f];by_cases a:s.x.length<14
   · exact⟨s,[],5,rfl,δ,λm=>aa a⟩
   simp only [if_neg a];by_cases h4:286<num s.x 14%32+257\/30<num s.x 14/32%32+1
   · exact⟨{ s with x:=s.x.drop 14 },[],2,rfl,δ,λm=>by rw[aa h4,a8 δ];rfl⟩
   exact⟨{ s with x:=s.x.drop 14,c0:=num s.x 14%32+257,c1:=num s.x 14/32%32+1,c2:=num s.x 14/1024+4,lens:=[],st:=4 },[],0,rfl,δ,λm=>by rw[a8 h4,aa rfl,IS.iU];rfl⟩
 have G:∀m,¬(s.cap m).st=3:=λm=>q;simp only [if_neg (G _)];have u:∀m,(s.cap m).lens=s.lens:=λm=>rfl;by_cases h4:s.st=4
 · have:∀m,(s.cap m).st=4:=λm=>h4;simp only [this,if_true];unfold IS.heads;have w:∀m,(s.cap m).c2=s.c2:=λm=>rfl;simp only [f,u,w];by_cases c:s.lens.length<s.c2
   · simp only [if_pos c];by_cases a:s.x.length<3
     · exact⟨s,[],5,rfl,δ,λm=>aa a⟩
     exact⟨{ s with x:=s.x.drop 3,lens:=s.lens++[(num s.x 3:Int)] },[],0,rfl,δ,λm=>by rw[a8 a,aa rfl,IS.iU];rfl⟩
   simp only [if_neg c];by_cases h5:bg (iH s.lens) 7≠0\/gS s.lens=true
   · exact⟨s,[],3,rfl,δ,λm=>aa h5⟩
   exact⟨{ s with hd:=iH s.lens,lens:=[],st:=5 },[],0,rfl,δ,λm=>by rw[a8 h5,aa rfl,IS.iU];rfl⟩
 have F:∀m,¬(s.cap m).st=4:=λm=>h4;simp only [if_neg (F _)];by_cases h5:s.st=5
 · have:∀m,(s.cap m).st=5:=λm=>h5;simp only [this,if_true];unfold IS.lengths;have o:∀m,(s.cap m).c0=s.c0:=λm=>rfl;have n:∀m,(s.cap m).c1=s.c1:=λm=>rfl;have l:∀m,(s.cap m).hd=s.hd:=λm=>rfl;simp only [u,o,n];by_cases c:s.lens.length<s.c0+s.c1
   · simp only [if_pos c];unfold IS.length;simp only [l,f,u];by_cases e:(aK s.hd s.x).2.2≠0
     · refine⟨s,[],(aK s.hd s.x).2.2,rfl, ?_,λm=>by rw[aa e,a8 e]⟩;rcases eP s.hd s.x with h | h | h <;> omega
     simp only [if_neg e];by_cases h6:(aK s.hd s.x).1<16
     · exact⟨{ s with x:=s.x.drop (aK s.hd s.x).2.1,lens:=s.lens++[(aK s.hd s.x).1] },[],0,rfl,δ,λm=>by rw[aa h6,aa rfl,IS.iU];rfl⟩
     simp only [if_neg h6];by_cases h7:(aK s.hd s.x).1=16/\s.lens.length=0
     · exact⟨s,[],2,rfl,δ,λm=>aa h7⟩
     simp only [if_neg h7];by_cases i:(s.x.drop (aK s.hd s.x).2.1).length<IS.rW (aK s.hd s.x).1
     · exact⟨s,[],5,rfl,δ,λm=>aa i⟩
     simp only [if_neg i];unfold IS.kx;simp only [u,o,n];by_cases p:s.c0+s.c1<s.lens.length+(IS.rB (aK s.hd s.x).1+num (s.x.drop (aK s.hd s.x).2.1) (IS.rW (aK s.hd s.x).1))
     · exact⟨{ s with x:=(s.x.drop (aK s.hd s.x).2.1).drop (IS.rW (aK s.hd s.x).1) },[],2,rfl,δ,λm=>by rw[aa p,a8 δ];rfl⟩
     exact⟨{ s with x:=(s.x.drop (aK s.hd s.x).2.1).drop (IS.rW (aK s.hd s.x).1),lens:=s.lens++List.replicate (IS.rB (aK s.hd s.x).1+num (s.x.drop (aK s.hd s.x).2.1) (IS.rW (aK s.hd s.x).1)) (if(aK s.hd s.x).1=16 then ix s.lens (s.lens.length-1)else 0) },[],0,rfl,δ,λm=>by rw[a8 p,aa rfl,IS.iU];rfl⟩
   simp only [if_neg c];by_cases h6:bg (s.lens.take s.c0) 15≠0\/bg (s.lens.drop s.c0) 15≠0\/ix s.lens 256=0
   · exact⟨s,[],3,rfl,δ,λm=>aa h6⟩
   exact⟨{ s with lt:=s.lens.take s.c0,ds:=s.lens.drop s.c0,st:=6 },[],0,rfl,δ,λm=>by rw[a8 h6,aa rfl,IS.iU];rfl⟩
 have E:∀m,¬(s.cap m).st=5:=λm=>h5;simp only [if_neg (E _)];by_cases h6:s.st=6
 · have:∀m,(s.cap m).st=6:=λm=>h6;simp only [this,if_true];unfold IS.token;have l:∀m,(s.cap m).lt=s.lt:=λm=>rfl;simp only [l,f];by_cases e:(aK s.lt s.x).2.2≠0
   · refine⟨s,[],(aK s.lt s.x).2.2,rfl, ?_,λm=>by rw[aa e,a8 e]⟩;rcases eP s.lt s.x with h | h | h <;> omega
   simp only [if_neg e];by_cases h7:(aK s.lt s.x).1<256
   · exact⟨{ s with x:=s.x.drop (aK s.lt s.x).2.1,aj:=s.aj++[bY.mk (aK s.lt s.x).1 0 0] },[(aK s.lt s.x).1],0,rfl,δ,λm=>by rw[aa h7,aa rfl];rfl⟩
   simp only [if_neg h7];by_cases i:(aK s.lt s.x).1=256
   · exact⟨({ s with x:=s.x.drop (aK s.lt s.x).2.1 }:IS).over,[],0,k _,δ,λm=>by rw[aa i,aa rfl,IS.iU,<-y];rfl⟩
   simp only [if_neg i];by_cases p:285<(aK s.lt s.x).1
   · exact⟨s,[],3,rfl,δ,λm=>aa p⟩
   simp only [if_neg p];by_cases d:(s.x.drop (aK s.lt s.x).2.1).length<lE ((aK s.lt s.x).1-257).toNat
   · exact⟨s,[],5,rfl,δ,λm=>aa d⟩
   exact⟨{ s with x:=(s.x.drop (aK s.lt s.x).2.1).drop (lE ((aK s.lt s.x).1-257).toNat),len:=lB ((aK s.lt s.x).1-257).toNat+num (s.x.drop (aK s.lt s.x).2.1) (lE ((aK s.lt s.x).1-257).toNat),st:=7 },[],0,rfl,δ,λm=>by rw[a8 d,aa rfl,IS.iU];rfl⟩
 have C:∀m,¬(s.cap m).st=6:=λm=>h6;simp only [if_neg (C _)];by_cases h7:s.st=7
 rotate_left
 · have B:∀m,¬(s.cap m).st=7:=λm=>h7;simp only [if_neg (B _)];exact⟨s,[],8,rfl,δ,λm=>rfl⟩
 have:∀m,(s.cap m).st=7:=λm=>h7;simp only [this,if_true];unfold IS.bn;have l:∀m,(s.cap m).ds=s.ds:=λm=>rfl;simp only [l,f];by_cases e:(aK s.ds s.x).2.2≠0
 · refine⟨s,[],(aK s.ds s.x).2.2,rfl, ?_,λm=>by rw[aa e,a8 e]⟩;rcases eP s.ds s.x with h | h | h <;> omega
 simp only [if_neg e];by_cases i:29<(aK s.ds s.x).1
 · exact⟨s,[],3,rfl,δ,λm=>aa i⟩
 simp only [if_neg i];by_cases d:(s.x.drop (aK s.ds s.x).2.1).length<dE (aK s.ds s.x).1.toNat
 · exact⟨s,[],5,rfl,δ,λm=>aa d⟩
 simp only [if_neg d];unfold IS.text;have A:∀m,(s.cap m).all=s.all:=λm=>rfl;simp only [A];generalize (s.x.drop (aK s.ds s.x).2.1).drop (dE (aK s.ds s.x).1.toNat)=x1;generalize dB (aK s.ds s.x).1.toNat+num (s.x.drop (aK s.ds s.x).2.1) (dE (aK s.ds s.x).1.toNat)=D;by_cases r:s.all.length<D
 · exact⟨s,[],3,rfl,δ,λm=>aa r⟩
 exact⟨{ s with x:=x1,st:=6,aj:=s.aj++[bY.mk 0 s.len D] },again s.all D s.len,0,rfl,δ,λm=>by rw[a8 r,aa rfl];rfl⟩
theorem IS.BL (s:IS):∃b,s.step.1.all=s.all++b/\s.step.1.rem+b.length=s.rem:=by
 obtain⟨t,b,e,c,f,d⟩ :=IS.Kb s;have h4:=d s.rem;have h5:s.cap s.rem=s:=rfl;rw[h5]at h4;by_cases a:e=0
 · rw[aa a]at h4;rw[h4];refine⟨b.take s.rem, ?_, ?_⟩
   · show t.all++_=_;rw[c];rfl
   show s.rem-b.length+(b.take s.rem).length=s.rem;rw[aD];omega
 rw[a8 a]at h4;rw[h4];exact⟨[],by rw[ak];exact c,rfl⟩
theorem IS.Steps.out (h:IS.Steps s t):∃b,t.all=s.all++b/\t.rem+b.length=s.rem:=by
 induction h with
 | refl=>exact⟨[],σ,rfl⟩
 | @tail t h1 h2 ih=>
   obtain⟨b,a,h4⟩ :=ih;obtain⟨c,h5,h6⟩ :=IS.BL t;exact⟨b++c,by rw[h5,a,av],by rw[ae];omega⟩
theorem IS.Fj (s:IS):∃b,s.fin.1.all=s.all++b/\s.fin.1.rem+b.length=s.rem:=by
 obtain⟨t,e,d⟩ :=IS.jD s;obtain⟨b,a,h4⟩ :=e.out;obtain⟨c,h5,h6⟩ :=IS.BL t;rw[<-d];exact⟨b++c,by rw[h5,a,av],by rw[ae];omega⟩
theorem IS.Xs (h:s.step.2≠6) (f:s.step.1.all=s.all++b):
  (b.length<=m->(s.cap m).step=(s.step.1.cap (m-b.length),s.step.2))/\(m<b.length->(s.cap m).step.2=6/\(s.cap m).step.1.all=s.all++b.take m):=by
 obtain⟨t,a,e,j,q,k⟩ :=IS.Kb s;have h4:=k s.rem;have h5:s.cap s.rem=s:=rfl;rw[h5]at h4;rw[k m,h4];by_cases d:e=0
 rotate_left
 · rw[a8 d]at h4;rw[a8 d,a8 d];rw[h4]at f
   have l:b=[]:=by
    have:t.all=s.all++b:=f;rw[j]at this;have h6:s.all.length=s.all.length+b.length:=by conv=>lhs;rw[this,ae]
    exact List.length_eq_zero_iff.1 ω
   subst l;exact⟨λ_=>rfl,λc=>by simp at c⟩
 subst d;rw[aa rfl]at h4⊢;rw[h4]at h f
 have i:¬s.rem<a.length:=by
  intro g
  apply h
  show(if s.rem<a.length then(6:Int)else 0)=6;rw[aa g]
 have n:a=b:=by
  have:t.all++a.take s.rem=s.all++b:=f;rw[j,aA ω]at this;exact List.append_cancel_left this
 subst n;refine⟨λc=> ?_,λc=> ⟨?_, ?_⟩⟩
 · rw[aa rfl];unfold IS.emit;have p:(t.cap m).rem=m:=rfl;have o:(t.cap s.rem).rem=s.rem:=rfl;rw[p,o,a8 ω,a8 i,aA ω,aA ω];rfl
 · show(if m<a.length then(6:Int)else 0)=6;rw[aa c]
 show t.all++a.take m=_;rw[j]
theorem IS.Steps.cap (h:IS.Steps s t):∀b,t.all=s.all++b->∀m,(b.length<=m->IS.Steps (s.cap m) (t.cap (m-b.length)))/\(m<b.length->(s.cap m).fin.2=6/\(s.cap m).fin.1.all=s.all++b.take m):=by
 induction h with
 | refl=>
   intro b f m
   obtain rfl:b=[]:=by
    have h6:=bf List.length f;rw[ae]at h6;exact List.length_eq_zero_iff.1 ω
   exact⟨λ_=> .refl _,λa=>by simp at a⟩
 | @tail t h1 h2 ih=>
   intro b f m;obtain⟨c,j,h4⟩ :=h1.out;obtain⟨d,h5,h6⟩ :=IS.BL t
   have i:b=c++d:=by
    rw[h5,j,av]at f;exact(List.append_cancel_left f).symm
   subst i;rw[ae];obtain⟨p,o⟩ :=ih c j m;by_cases n:c.length<=m
   · have l:=p n;obtain⟨b1,b2⟩ :=IS.Xs (s:=t) (b:=d) (m:=m-c.length) (by rw[h2];decide) h5;refine⟨λa=> ?_,λa=> ?_⟩
     · have e:=b1 ω;have:=IS.Steps.tail l (by rw[e];exact h2)
       rwa [e,show m-c.length-d.length=m-(c.length+d.length) by omega]at this
     obtain⟨g,k⟩ :=b2 ω;rw[<-l.lM,IS.gZ (by rw[g];decide)];refine⟨g, ?_⟩;rw[k,j,av,iQ,aA n]
   refine⟨λa=>ω,λa=> ?_⟩;obtain⟨g,k⟩ :=o ω;exact⟨g,by rw[k,cQ ω]⟩
end
structure IS.Ok (s:IS):Prop where
 bit:dH s.x
 even:s.st=1\/s.st=2\/s.st=8->s.x.length%8=0
 cc:s.st=4\/s.st=5->257<=s.c0/\s.c0<=286/\1<=s.c1/\s.c1<=30
 h4:s.st=4->s.c2<=19/\s.lens.length<=s.c2/\∀v∈s.lens,0<=v/\v<=7
 h5:s.st=5->s.lens.length<=s.c0+s.c1/\(∀v∈s.lens,0<=v/\v<=15)/\bg s.hd 7=0/\s.hd.length=19
 h6:s.st=6\/s.st=7->bg s.lt 15=0/\bg s.ds 15=0
 h7:s.st=7->3<=s.len/\s.len<=258
 left:s.left<=65535
 jc:∀v∈s.all,0<=v/\v<256
 st8:s.st<=8
section
variable {s t:IS} {x y b:ag} {n m:Nat}
theorem IS.Ok.at0 (a:s.st=0\/s.st=3) (bit:dH s.x) (left:s.left<=65535) (jc:∀v∈s.all,0<=v/\v<256):s.Ok:=
 ⟨bit,λh=>ω,λh=>ω,λh=>ω,λh=>ω,λh=>ω,λh=>ω,left,jc,ω⟩
theorem IS.Ok.at1 (a:s.st=1\/s.st=2\/s.st=8) (bit:dH s.x) (left:s.left<=65535) (jc:∀v∈s.all,0<=v/\v<256) (even:s.x.length%8=0):s.Ok:=
 ⟨bit,λh=>even,λh=>ω,λh=>ω,λh=>ω,λh=>ω,λh=>ω,left,jc,ω⟩
theorem IS.Ok.at4 (a:s.st=4) (bit:dH s.x) (left:s.left<=65535) (jc:∀v∈s.all,0<=v/\v<256) (cc:257<=s.c0/\s.c0<=286/\1<=s.c1/\s.c1<=30)
  (h4:s.c2<=19/\s.lens.length<=s.c2/\∀v∈s.lens,0<=v/\v<=7):s.Ok:=
 ⟨bit,λh=>ω,λh=>cc,λh=>h4,λh=>ω,λh=>ω,λh=>ω,left,jc,ω⟩
theorem IS.Ok.at5 (a:s.st=5) (bit:dH s.x) (left:s.left<=65535) (jc:∀v∈s.all,0<=v/\v<256) (cc:257<=s.c0/\s.c0<=286/\1<=s.c1/\s.c1<=30)
  (h5:s.lens.length<=s.c0+s.c1/\(∀v∈s.lens,0<=v/\v<=15)/\bg s.hd 7=0/\s.hd.length=19):s.Ok:=
 ⟨bit,λh=>ω,λh=>cc,λh=>ω,λh=>h5,λh=>ω,λh=>ω,left,jc,ω⟩
theorem IS.Ok.at6 (a:s.st=6\/s.st=7) (bit:dH s.x) (left:s.left<=65535) (jc:∀v∈s.all,0<=v/\v<256) (h6:bg s.lt 15=0/\bg s.ds 15=0)
  (h7:s.st=7->3<=s.len/\s.len<=258):s.Ok:=
 ⟨bit,λh=>ω,λh=>ω,λh=>ω,λh=>ω,λh=>h6,h7,left,jc,ω⟩
theorem gF {x:ag} (h:dH x) (n:Nat):num x n<2 ^ n:=by
 have c:=kr (h.ua n);have b:=gu (show(x.take n).length<=n by simp;omega);have a:((2 ^ n:Nat):Int)=2 ^ n:=σ;unfold num;omega
theorem qI {x:ag} (h:dH x) (n:Nat):((num x n:Nat):Int)=fL (x.take n):=by
 have a:=kr (h.ua n);unfold num;omega
theorem dH.ly {x:ag} (h:dH x):dH (ly x):=h.dU _
theorem mR (l:ag):(iH l).length=19:=by simp [iH]
theorem mn:bg ij 15=0/\bg iV 15=0:=by decide+kernel
theorem Wc {j v:Nat} (a:j<29) (hv:v<2 ^ lE j):3<=lB j+v/\lB j+v<=258:=by
 have:∀j,j<29->3<=lB j/\lB j+2 ^ lE j<=259:=by decide+kernel
 have:=this j a;omega
theorem U5 {j v:Nat} (a:j<30) (hv:v<2 ^ dE j):1<=dB j+v/\dB j+v<=32768:=by
 have:∀j,j<30->1<=dB j/\dB j+2 ^ dE j<=32769:=by decide+kernel
 have:=this j a;omega
theorem IS.Ok.over (h:s.Ok):s.over.Ok:=by
 unfold IS.over;split
 · exact .at1 (.inr (.inr rfl)) h.bit.ly h.left h.jc (by show(ly s.x).length%8=0;rw[mP];omega)
 exact .at0 (.inl rfl) h.bit h.left h.jc
theorem IS.Ok.emit (h:s.Ok) {b:ag} (c:∀v∈b,0<=v/\v<256):(s.emit b).1.Ok:=
 ⟨h.bit,h.even,h.cc,h.h4,h.h5,h.h6,h.h7,h.left,λv hv=>by
   rcases aQ.1 hv with a | a
   · exact h.jc v a
   exact c v (aN a),h.st8⟩
theorem lU {l x:ag} (a:dH x) (h:¬(aK l x).2.2≠0):∃k n:Nat,aK l x=((k:Int),n,0)/\k<l.length/\1<=n/\n<=15/\n<=x.length:=by
 obtain⟨k,n,c,b,d,h4,h5,h6,h7⟩ :=Wv a (bK.1 h);exact⟨k,n,c,b,h4,h5,h6⟩
theorem TF {l:ag} (h:∀v∈l,0<=v/\v<256) (D N:Nat):∀v∈again l D N,0<=v/\v<256:=by
 intro v hv;unfold again at hv;obtain⟨i,_,rfl⟩ :=iv.1 hv;exact Pa h _
theorem IS.Ok.step (h:s.Ok) (e:s.step.2=0\/s.step.2=6):s.step.1.Ok:=by
 unfold IS.step at e⊢;by_cases B:s.st=0
 · rw[aa B]at e⊢;unfold IS.block at e⊢;by_cases c:s.x.length<3
   · rw[aa c]at e;simp at e
   rw[a8 c]at e⊢;by_cases a:num s.x 3/2=0
   · rw[aa a];exact .at1 (.inl rfl) (h.bit.dU 3).ly h.left h.jc (by show(ly (s.x.drop 3)).length%8=0;rw[mP];omega)
   rw[a8 a]at e⊢;by_cases g:num s.x 3/2=1
   · rw[aa g];exact .at6 (.inl rfl) (h.bit.dU 3) h.left h.jc mn (λe=>by simp at e)
   rw[a8 g]at e⊢;by_cases r:num s.x 3/2=2
   · rw[aa r];exact .at0 (.inr rfl) (h.bit.dU 3) h.left h.jc
   rw[a8 r]at e;simp at e
 rw[a8 B]at e⊢;by_cases a:s.st=1
 · rw[aa a]at e⊢;unfold IS.size at e⊢;by_cases c:s.x.length<32
   · rw[aa c]at e;simp at e
   rw[a8 c]at e⊢;by_cases g:num s.x 32%65536+num s.x 32/65536=65535
   · rw[aa g];exact .at1 (.inr (.inl rfl)) (h.bit.dU 32) (by show num s.x 32%65536<=65535;omega) h.jc (by have:=h.even (.inl a);show(s.x.drop 32).length%8=0;rw[ay];omega)
   rw[a8 g]at e;simp at e
 rw[a8 a]at e⊢;by_cases g:s.st=2
 · rw[aa g]at e⊢;unfold IS.stored at e⊢;by_cases z:s.left=0
   · rw[aa z];exact h.over
   rw[a8 z]at e⊢;by_cases c:s.x.length<8
   · rw[aa c]at e;simp at e
   rw[a8 c];refine IS.Ok.emit (s:={ s with x:=s.x.drop 8,left:=s.left-1 }) (.at1 (.inr (.inl g)) (h.bit.dU 8) (by have:=h.left;show s.left-1<=65535;omega) h.jc (by have:=h.even (.inr (.inl g));show(s.x.drop 8).length%8=0;rw[ay];omega)) ?_;intro v hv;simp at hv;subst hv;have:=gF h.bit 8;omega
 rw[a8 g]at e⊢;by_cases r:s.st=3
 · rw[aa r]at e⊢;unfold IS.sizes at e⊢;by_cases c:s.x.length<14
   · rw[aa c]at e;simp at e
   rw[a8 c]at e⊢;by_cases h4:286<num s.x 14%32+257\/30<num s.x 14/32%32+1
   · rw[aa h4]at e;simp at e
   rw[a8 h4];have F:=gF h.bit 14;refine .at4 rfl (h.bit.dU 14) h.left h.jc ?_ ?_
   · show 257<=num s.x 14%32+257/\num s.x 14%32+257<=286/\1<=num s.x 14/32%32+1/\num s.x 14/32%32+1<=30;omega
   refine⟨?_,aG _,λv hv=>by simp at hv⟩;show num s.x 14/1024+4<=19;omega
 rw[a8 r]at e⊢;by_cases h4:s.st=4
 · rw[aa h4]at e⊢;unfold IS.heads at e⊢;obtain⟨q1,q2,q3⟩ :=h.h4 h4;have d:=h.cc (.inl h4);by_cases o:s.lens.length<s.c2
   · rw[aa o]at e⊢;by_cases c:s.x.length<3
     · rw[aa c]at e;simp at e
     rw[a8 c];refine .at4 h4 (h.bit.dU 3) h.left h.jc d ⟨q1, ?_, ?_⟩
     · show(s.lens++[_]).length<=s.c2;simp;omega
     intro v hv;rcases aQ.1 hv with a | a
     · exact q3 v a
     simp at a;subst a;have:=gF h.bit 3;omega
   rw[a8 o]at e⊢;by_cases h5:bg (iH s.lens) 7≠0\/gS s.lens=true
   · rw[aa h5]at e;simp at e
   rw[a8 h5];exact .at5 rfl h.bit h.left h.jc d ⟨aG _,λv hv=>by simp at hv,bK.1 λh6=>h5 (.inl h6),mR _⟩
 rw[a8 h4]at e⊢;by_cases h5:s.st=5
 · rw[aa h5]at e⊢;unfold IS.lengths at e⊢;obtain⟨q1,q2,q3,q4⟩ :=h.h5 h5;have d:=h.cc (.inr h5);by_cases o:s.lens.length<s.c0+s.c1
   · rw[aa o]at e⊢;unfold IS.length at e⊢;by_cases f:(aK s.hd s.x).2.2≠0
     · rw[aa f]at e;rcases eP s.hd s.x with h6 | h6 | h6 <;> omega
     rw[a8 f]at e⊢;obtain⟨k,n,l,A,y,w,u⟩ :=lU h.bit f;rw[l]at e⊢;simp only at e⊢;by_cases h6:(k:Int)<16
     · rw[aa h6];refine .at5 h5 (h.bit.dU _) h.left h.jc d ⟨?_, ?_,q3,q4⟩
       · show(s.lens++[_]).length<=s.c0+s.c1;simp;omega
       intro v hv;rcases aQ.1 hv with a | a
       · exact q2 v a
       simp at a;subst a;omega
     rw[a8 h6]at e⊢;by_cases h7:(k:Int)=16/\s.lens.length=0
     · rw[aa h7]at e;simp at e
     rw[a8 h7]at e⊢;by_cases i:(s.x.drop n).length<IS.rW k
     · rw[aa i]at e;simp at e
     rw[a8 i]at e⊢;unfold IS.kx at e⊢;by_cases q:s.c0+s.c1<s.lens.length+(IS.rB k+num (s.x.drop n) (IS.rW k))
     · rw[aa q]at e;simp at e
     rw[a8 q];refine .at5 h5 ((h.bit.dU _).dU _) h.left h.jc d ⟨?_, ?_,q3,q4⟩
     · show(s.lens++List.replicate _ _).length<=s.c0+s.c1;rw[ae,aS];omega
     intro v hv;rcases aQ.1 hv with a | a
     · exact q2 v a
     rw[gO a];split
     · rename_i b
       unfold ix;have hp:s.lens.length≠0:=λE=>h7 ⟨b,E⟩;rw[au,cZ (show s.lens.length-1<s.lens.length by omega)];exact q2 _ (cF _)
     omega
   rw[a8 o]at e⊢;by_cases h6:bg (s.lens.take s.c0) 15≠0\/bg (s.lens.drop s.c0) 15≠0\/ix s.lens 256=0
   · rw[aa h6]at e;simp at e
   rw[a8 h6];exact .at6 (.inl rfl) h.bit h.left h.jc ⟨bK.1 λh7=>h6 (.inl h7),bK.1 λh7=>h6 (.inr (.inl h7))⟩ (λe=>by simp at e)
 rw[a8 h5]at e⊢;by_cases h6:s.st=6
 · rw[aa h6]at e⊢;unfold IS.token at e⊢;have m:=h.h6 (.inl h6);by_cases f:(aK s.lt s.x).2.2≠0
   · rw[aa f]at e;rcases eP s.lt s.x with h6 | h6 | h6 <;> omega
   rw[a8 f]at e⊢;obtain⟨k,n,l,A,y,w,u⟩ :=lU h.bit f;rw[l]at e⊢;simp only at e⊢;by_cases h7:(k:Int)<256
   · rw[aa h7];refine IS.Ok.emit (s:={ s with x:=s.x.drop n,aj:=s.aj++[bY.mk (k:Int) 0 0] }) (.at6 (.inl h6) (h.bit.dU _) h.left h.jc m (λe=>by simp [h6]at e)) ?_;intro v hv;simp at hv;subst hv;omega
   rw[a8 h7]at e⊢;by_cases i:(k:Int)=256
   · rw[aa i];exact IS.Ok.over (s:={ s with x:=s.x.drop n }) (.at6 (.inl h6) (h.bit.dU _) h.left h.jc m (λe=>by simp [h6]at e))
   rw[a8 i]at e⊢;by_cases q:285<(k:Int)
   · rw[aa q]at e;simp at e
   rw[a8 q]at e⊢;obtain⟨j,C⟩ :=ν (((k:Int)-257).toNat);rw[C]at e⊢;by_cases b:(s.x.drop n).length<lE j
   · rw[aa b]at e;simp at e
   rw[a8 b];exact .at6 (.inr rfl) ((h.bit.dU _).dU _) h.left h.jc m (λ_=>Wc ω (gF (h.bit.dU _) _))
 rw[a8 h6]at e⊢;by_cases h7:s.st=7
 rotate_left
 · rw[a8 h7]at e;simp at e
 rw[aa h7]at e⊢;unfold IS.bn at e⊢;have m:=h.h6 (.inr h7);by_cases f:(aK s.ds s.x).2.2≠0
 · rw[aa f]at e;rcases eP s.ds s.x with h6 | h6 | h6 <;> omega
 rw[a8 f]at e⊢;obtain⟨k,n,l,A,y,w,u⟩ :=lU h.bit f;rw[l]at e⊢;simp only at e⊢;by_cases i:29<(k:Int)
 · rw[aa i]at e;simp at e
 rw[a8 i]at e⊢;by_cases b:(s.x.drop n).length<dE (k:Int).toNat
 · rw[aa b]at e;simp at e
 rw[a8 b]at e⊢;unfold IS.text at e⊢;have p:dH ((s.x.drop n).drop (dE (k:Int).toNat)):=(h.bit.dU _).dU _;generalize (s.x.drop n).drop (dE (k:Int).toNat)=x1 at e p⊢;generalize dB (k:Int).toNat+num (s.x.drop n) (dE (k:Int).toNat)=D at e⊢;by_cases t:s.all.length<D
 · rw[aa t]at e;simp at e
 rw[a8 t];exact IS.Ok.emit (s:={ s with x:=x1,st:=6,aj:=s.aj++[bY.mk 0 s.len D] }) (.at6 (.inl rfl) p h.left h.jc m (λe=>by simp at e)) (TF h.jc _ _)
theorem IS.Ok.steps (h:s.Ok) (a:IS.Steps s t):t.Ok:=by
 induction a with
 | refl=>exact h
 | tail _ h2 ih=>exact ih.step (.inl h2)
theorem IS.Ok.start {x:ag} (h:dH x) (m:Nat):(start x m).Ok:= .at0 (.inl rfl) h (aG _) (λv hv=>by simp [Go.Proofs.YtgiimmkmjpbecaaGreat.start]at hv)
theorem IS.step_done (h:s.step.2=8):s.step.1=s/\s.st≠0/\s.st≠1/\s.st≠2/\s.st≠3/\s.st≠4/\s.st≠5/\s.st≠6/\s.st≠7:=by
 unfold IS.step at h⊢;have a:∀(s:IS) b,(s.emit b).2≠8:=λs b=>by unfold IS.emit;simp only;split <;> decide
 by_cases f:s.st=0
 · rw[aa f]at h;unfold IS.block at h;exfalso;revert h;repeat' split
   all_goals simp
 rw[a8 f]at h⊢;by_cases e:s.st=1
 · rw[aa e]at h;unfold IS.size at h;exfalso;revert h;repeat' split
   all_goals simp
 rw[a8 e]at h⊢;by_cases d:s.st=2
 · rw[aa d]at h;unfold IS.stored at h;exfalso;revert h;repeat' split
   · simp
   · simp
   exact a _ _
 rw[a8 d]at h⊢;by_cases c:s.st=3
 · rw[aa c]at h;unfold IS.sizes at h;exfalso;revert h;repeat' split
   all_goals simp
 rw[a8 c]at h⊢;by_cases h4:s.st=4
 · rw[aa h4]at h;unfold IS.heads at h;exfalso;revert h;repeat' split
   all_goals simp
 rw[a8 h4]at h⊢;by_cases h5:s.st=5
 · rw[aa h5]at h;unfold IS.lengths IS.length IS.kx at h;exfalso;have:=eP s.hd s.x;revert h;repeat' split
   all_goals (intro h;simp at h <;> omega)
 rw[a8 h5]at h⊢;by_cases h6:s.st=6
 · rw[aa h6]at h;unfold IS.token at h;exfalso;have:=eP s.lt s.x;revert h;repeat' split
   all_goals first
    | exact a _ _
    | (intro h;simp at h <;> omega)
 rw[a8 h6]at h⊢;by_cases h7:s.st=7
 · rw[aa h7]at h;unfold IS.bn IS.text at h;exfalso;have:=eP s.ds s.x;revert h;repeat' split
   all_goals first
    | exact a _ _
    | (intro h;simp at h <;> omega)
 rw[a8 h7];exact⟨rfl,f,e,d,c,h4,h5,h6,h7⟩
end
section
variable {s:IS} {B:ag} {j:Nat}
theorem Wy (b:∀x∈B,0<=x/\x<256) (a:j<B.length):((num (rb B (8*j)) 8:Nat):Int)=ix B j:=by
 rw[qI (dH.rb B _)];unfold rb;rw[I8 B a,gJ];have:=Pa b j;have h:(2:Int) ^ 8=256:=rfl;rw[h];omega
theorem Sk {l:ag} {j K:Nat} (h:j+K<l.length):(l.drop j).take (K+1)=(l.drop j).take K++[ix l (j+K)]:=by
 rw[bc (by rw[ay];omega)];congr 1;simp [ix,List.getD_eq_getElem?_getD,List.getElem?_eq_getElem h]
theorem BM (e:∀x∈B,0<=x/\x<256) (a:s.st=2) (b:s.x=rb B (8*j)) (d:j<B.length) (c:s.left≠0):
  s.step={ s with x:=rb B (8*(j+1)),left:=s.left-1 }.emit [ix B j]:=by
 unfold IS.step;rw[a8 ω,a8 ω,aa a];unfold IS.stored;rw[a8 c,a8 (by rw[b,gW];omega),b,Wy e d,kJ,show 8*j+8=8*(j+1) by omega]
theorem qR (e:∀x∈B,0<=x/\x<256) (a:s.st=2) (d:s.x=rb B (8*j)) (K:Nat) (k:K<=s.left) (i:j+K<=B.length) (h:K<=s.rem):
  IS.Steps s { s with x:=rb B (8*(j+K)),left:=s.left-K,all:=s.all++(B.drop j).take K,rem:=s.rem-K }:=by
 induction K with
 | zero=>
   have:({ s with x:=rb B (8*(j+0)),left:=s.left-0,all:=s.all++(B.drop j).take 0,rem:=s.rem-0 }:IS)=s:=by
    rw[iw,<-d,iD,ak];rfl
   rw[this];exact .refl s
 | succ K c=>
   have g:=c ω ω ω;have f:=BM (s:={ s with x:=rb B (8*(j+K)),left:=s.left-K,all:=s.all++(B.drop j).take K,rem:=s.rem-K }) e a rfl ω (by show s.left-K≠0;omega)
   have b:IS.step { s with x:=rb B (8*(j+K)),left:=s.left-K,all:=s.all++(B.drop j).take K,rem:=s.rem-K }=({ s with x:=rb B (8*(j+(K+1))),left:=s.left-(K+1),all:=s.all++(B.drop j).take (K+1),rem:=s.rem-(K+1) },0):=by
    rw[f];unfold IS.emit;simp only;rw[a8 ξ,aA (l:=[ix B (j+K)]) ξ,Sk ω,av,show s.left-K-1=s.left-(K+1) by omega,show s.rem-K - [ix B (j+K)].length=s.rem-(K+1) by simp;omega];rfl
   have h4:=IS.Steps.tail g (by rw[b])
   rwa [b]at h4
theorem NG (b:∀x∈B,0<=x/\x<256) (a:s.st=2) (e:s.x=rb B (8*j)) (K:Nat) (i:K<=s.left) (h:j+K<=B.length) (g:s.rem<K):
  s.fin.2=6/\s.fin.1.all=s.all++(B.drop j).take s.rem:=by
 have f:=qR b a e s.rem ω ω (af _);have d:=BM (s:={ s with x:=rb B (8*(j+s.rem)),left:=s.left-s.rem,all:=s.all++(B.drop j).take s.rem,rem:=s.rem-s.rem }) b a rfl ω (by show s.left-s.rem≠0;omega)
 have c:(IS.step { s with x:=rb B (8*(j+s.rem)),left:=s.left-s.rem,all:=s.all++(B.drop j).take s.rem,rem:=s.rem-s.rem }).2=6:=by
  rw[d];unfold IS.emit;simp
 rw[<-f.lM,IS.gZ (by rw[c];decide)];refine⟨c, ?_⟩;rw[d];unfold IS.emit;simp
end
section
variable {s:IS} {y pad B:ag}
theorem sB {x z:ag} {n:Nat} (h:x.length=n):num (x++z) n=(fL x).toNat:=by
 rw[nP ω];unfold num;rw[aA ω]
theorem TH {R:ag} (hp:pad.length<8) (a:R.length%8=0):ly (pad++R)=R:=by
 unfold ly;rw[ae,show(pad.length+R.length)%8=pad.length by omega,gy]
theorem lJ {a R:ag} {n:Nat} (h:a.length=n):(a++R).drop n=R:=by subst h;exact gy
theorem Xm (n:Nat) (h:n<=65535) (z:ag):num (dt n 16++dt (65535-n) 16++z) 32=n+65536*(65535-n):=by
 rw[sB (by rw[ae,aR,aR]),jf,aR,gJ,gJ];have e:(2:Int) ^ 16=65536:=δ;rw[e];omega
theorem zT (a:y.length%8=0) (b:dH y):dT (gU y)=y:=by
 have h:=Z0 b;have:rest y=[]:=aC (by rw[jh];exact a);rw[this,ak]at h;exact h
theorem Gy (d:s.st=0) {h:Int} (e:h=0\/h=1) (b:s.x=[h,0,0]++(pad++(dt B.length 16++dt (65535-B.length) 16++(dT B++y)))) (hp:pad.length<8) (u:y.length%8=0) (o:dH y) (C:∀x∈B,0<=x/\x<256) (c:B.length<=65535) (w:B.length<=s.rem):
  IS.Steps s ({ s with last:=decide (h=1),kinds:=s.kinds++[0],left:=0,all:=s.all++B,rem:=s.rem-B.length,x:=y,st:=2 }:IS).over:=by
 have z:num s.x 3=h.toNat:=by
  rw[b,sB (x:=[h,0,0]) (n:=3) rfl];rcases e with rfl | rfl <;> rfl
 have xW:s.x.drop 3=pad++(dt B.length 16++dt (65535-B.length) 16++(dT B++y)):=by rw[b];rfl
 have A:(dt B.length 16++dt (65535-B.length) 16++(dT B++y)).length=32+(8*B.length+y.length):=by
  rw[ae,ae,ae,aR,aR,dQ]
 have t:s.step=({ s with last:=decide (h=1),kinds:=s.kinds++[0],x:=dt B.length 16++dt (65535-B.length) 16++(dT B++y),st:=1 },0):=by
  unfold IS.step;rw[aa d];unfold IS.block;rw[a8 (by rw[b,ae];simp),z,aa (by rcases e with rfl | rfl <;> rfl),xW,TH hp ω];rcases e with rfl | rfl <;> rfl
 have r:({ s with last:=decide (h=1),kinds:=s.kinds++[0],x:=dt B.length 16++dt (65535-B.length) 16++(dT B++y),st:=1 }:IS).step=({ s with last:=decide (h=1),kinds:=s.kinds++[0],x:=dT B++y,left:=B.length,st:=2 },0):=by
  unfold IS.step;rw[a8 σ,aa rfl];unfold IS.size;simp only;rw[a8 (by rw[A];omega),Xm _ c,aa ω,lJ (by rw[ae,aR,aR])];congr 2;omega
 have f:∀x∈B++gU y,0<=x/\x<256:=λx b=>by
  rcases aQ.1 b with i | i
  · exact C x i
  exact Lm o x i
 have a:dT (B++gU y)=dT B++y:=by rw[qh,zT u o]
 have p:=qR (s:={ s with last:=decide (h=1),kinds:=s.kinds++[0],x:=dT B++y,left:=B.length,st:=2 }) (B:=B++gU y) (j:=0) f rfl (by show dT B++y=(dT (B++gU y)).drop 0;rw[a];rfl) B.length (af _) (by rw[ae];omega) w
 have v:rb (B++gU y) (8*(0+B.length))=y:=by
  unfold rb;rw[a,bX];exact lJ (by rw[dQ])
 rw[v,iB,gB]at p
 have q:({ s with last:=decide (h=1),kinds:=s.kinds++[0],left:=0,all:=s.all++B,rem:=s.rem-B.length,x:=y,st:=2 }:IS).step=(({ s with last:=decide (h=1),kinds:=s.kinds++[0],left:=0,all:=s.all++B,rem:=s.rem-B.length,x:=y,st:=2 }:IS).over,0):=by
  unfold IS.step;rw[a8 σ,a8 σ,aa rfl];unfold IS.stored;rw[aa rfl]
 have m:=IS.Steps.one (s:=s) (by rw[t]);rw[t]at m;have l:=m.tail (by rw[r]);rw[r]at l
 have g:IS.Steps { s with last:=decide (h=1),kinds:=s.kinds++[0],x:=dT B++y,left:=B.length,st:=2 } { s with last:=decide (h=1),kinds:=s.kinds++[0],left:=0,all:=s.all++B,rem:=s.rem-B.length,x:=y,st:=2 }:=by
  have:=p;simp only [Nat.sub_self]at this;exact this
 have k:=(l.trans g).tail (by rw[q]);rw[q]at k;exact k
end
def vY (lit bn:ag) (t:bY):Prop:=if t.len=0 then 1<=ix lit t.lit.toNat else 1<=ix lit (257+jq t.len)/\1<=ix bn (fe t.bn)
structure Cw (t:IS) (lit bn:ag) (last:Bool) (x all:ag) (rem:Nat) (kinds stops:ag) (aj:List bY):Prop where
 st:t.st=6
 lt:t.lt=lit
 ds:t.ds=bn
 last:t.last=last
 x:t.x=x
 all:t.all=all
 rem:t.rem=rem
 kinds:t.kinds=kinds
 stops:t.stops=stops
 aj:t.aj=aj
theorem GC {l:ag} {s:Nat} (h:1<=ix l s):s<l.length:=by
 rcases aU s l.length with a | a
 · exact a
 have:ix l s=0:=by unfold ix;rw[au,bq a];rfl
 omega
theorem tv {l:ag} (c:bg l 15=0) {s:Nat} (h:1<=ix l s) (z:ag):aK l (cN l s++z)=((s:Int),(ix l s).toNat,0)/\(cN l s++z).drop (ix l s).toNat=z:=by
 obtain⟨c1,c2,d⟩ :=kV c;have b:=GC h;have e:=c2 s b;have a:=fZ l s;refine⟨Kl (N:=(ix l s).toNat) _ ω ω ω b d ?_ ?_, ?_⟩
 · rw[<-a];exact gB
 · rw[ae,a];omega
 rw[<-a];exact gy
section
variable {t:IS} {lit bn:ag} {last:Bool} {x y all:ag} {rem:Nat} {kinds stops:ag} {aj:List bY}
theorem IS.Xq (h:t.st=6):t.step=t.token:=by
 unfold IS.step;rw[a8 ω,a8 ω,a8 ω,a8 ω,a8 ω,a8 ω,aa h]
theorem IS.a6S (h:t.st=7):t.step=t.bn:=by
 unfold IS.step;rw[a8 ω,a8 ω,a8 ω,a8 ω,a8 ω,a8 ω,a8 ω,aa h]
theorem Sp {k:bY} {n:ag} (h:Cw t lit bn last (sM lit bn k++y) all rem kinds stops aj) (T:bg lit 15=0) (pZ:bg bn 15=0) (hl:lit.length<=288) (g:cn k) (R:0<=k.lit/\k.lit<256) (Q:vY lit bn k) (a:step all k=(0,n)) (r:n.length<=all.length+rem):
  ∃P,IS.Steps t P/\Cw P lit bn last y n (rem-(n.length-all.length)) kinds stops (aj++[k]):=by
 obtain⟨L,N,D⟩ :=k;obtain⟨e,rfl⟩ :∃e:Nat,L=(e:Int):= ⟨L.toNat,by have d:0<=L:=R.1;omega⟩;have oh:e<256:=by have d:(e:Int)<256:=R.2;omega
 unfold step at a;rw[a8 (by simpa using g)]at a;by_cases hN:N=0
 · subst hN;have hD:D=0:=by unfold cn at g;rw[aa rfl]at g;exact g
   subst hD;split at a
   · simp at a
   rename_i kh
   have K:all++[(e:Int)]=n:=by simpa using a
   subst K;have i:t.x=cN lit e++y:=by rw[h.x];rfl
   have G:1<=ix lit e:=by have d:=Q;unfold vY at d;rw[aa rfl]at d;exact d
   obtain⟨E,C⟩ :=tv T G y
   have m:t.step=({ t with x:=y,aj:=t.aj++[bY.mk (e:Int) 0 0],all:=t.all++[(e:Int)].take t.rem,rem:=t.rem-1 },if t.rem<1 then 6 else 0):=by
    rw[IS.Xq h.st];unfold IS.token;rw[h.lt,i,E];simp only;rw[a8 δ,aa ω,C];rfl
   have H:1<=t.rem:=by rw[h.rem];rw[ae,cJ]at r;omega
   rw[a8 ω]at m;have d:=IS.Steps.one (s:=t) (by rw[m]);rw[m]at d;refine⟨_,d, ⟨h.st,h.lt,h.ds,h.last,rfl, ?_, ?_,h.kinds,h.stops, ?_⟩⟩
   · show t.all++[(e:Int)].take t.rem=_;rw[h.all,aA (by simpa using H)]
   · show t.rem-1=_;rw[h.rem,ae,cJ];omega
   show t.aj++_=_;rw[h.aj]
 obtain⟨⟨v,f⟩, ⟨d1,d2⟩,Tb,Y⟩ :=sN g hN;replace v:3<=N:=v;replace f:N<=258:=f;replace d1:1<=D:=d1;replace d2:D<=32768:=d2;have F:(e:Int)=0:=by unfold cn at g;rw[a8 hN]at g;exact g.1
 rw[F]at a h⊢;split at a
 · simp at a
 rename_i kh
 try rw[a8 hN]at a
 split at a
 · simp at a
 rename_i S
 have K:all++again all D.toNat N.toNat=n:=by simpa using a
 subst K;have S:¬(all.length:Int)<D:=S;have B:=(mC v).a1D f;have A:=(mC v).2.1;have z:=(kM d1).a1C d2;have w:=(kM d1).2.1;have J:jq N<=28:=Tb;have I:fe D<=29:=Y;obtain⟨p,o⟩ :1<=ix lit (257+jq N)/\1<=ix bn (fe D):=by have d:=Q;unfold vY at d;rw[a8 hN]at d;exact d
 have i:t.x=cN lit (257+jq N)++(dt (N-((lB (jq N):Nat):Int)) (lE (jq N))++(cN bn (fe D)++(dt (D-((dB (fe D):Nat):Int)) (dE (fe D))++y))):=by
  rw[h.x];unfold sM;rw[a8 hN];simp only [List.append_assoc]
 obtain⟨j,hj⟩ :=ν (jq N);obtain⟨q,hq⟩ :=ν (fe D);rw[hj]at B A J p i;rw[hq]at z w I o i;obtain⟨V,hV⟩ :∃V:Nat,N-((lB j:Nat):Int)=(V:Int):= ⟨(N-((lB j:Nat):Int)).toNat,ω⟩;obtain⟨U,hU⟩ :∃U:Nat,D-((dB q:Nat):Int)=(U:Int):= ⟨(D-((dB q:Nat):Int)).toNat,ω⟩;rw[hV]at B i;rw[hU]at z i;obtain⟨E,C⟩ :=tv T p (dt (V:Int) (lE j)++(cN bn q++(dt (U:Int) (dE q)++y)))
 have Z:num (dt (V:Int) (lE j)++(cN bn q++(dt (U:Int) (dE q)++y))) (lE j)=V:=by
  rw[sB (aR _ _),gJ,bu ω (by exact_mod_cast B)];rfl
 have m:t.step=({ t with x:=cN bn q++(dt (U:Int) (dE q)++y),len:=lB j+V,st:=7 },0):=by
  rw[IS.Xq h.st];unfold IS.token;rw[h.lt,i,E];simp only;rw[a8 δ,a8 ω,a8 ω,a8 ω,C,show(((257+j:Nat):Int)-257).toNat=j by omega,a8 (by rw[ae,aR];omega),Z,lJ (aR _ _)]
 obtain⟨b,l⟩ :∃b:IS,b={ t with x:=cN bn q++(dt (U:Int) (dE q)++y),len:=lB j+V,st:=7 }:= ⟨_,rfl⟩;rw[<-l]at m
 have a2:b.st=7/\b.lt=lit/\b.ds=bn/\b.last=last/\b.x=cN bn q++(dt (U:Int) (dE q)++y)/\b.len=lB j+V/\b.all=all/\b.rem=rem/\b.kinds=kinds/\b.stops=stops/\b.aj=aj:=by
  rw[l];exact⟨rfl,h.lt,h.ds,h.last,rfl,rfl,h.all,h.rem,h.kinds,h.stops,h.aj⟩
 clear l;obtain⟨b1,b2,b3,b4,b5,b6,b7,b8,b9,Y9,PZ⟩ :=a2;obtain⟨m1,m2⟩ :=tv pZ o (dt (U:Int) (dE q)++y)
 have nu:num (dt (U:Int) (dE q)++y) (dE q)=U:=by
  rw[sB (aR _ _),gJ,bu ω (by exact_mod_cast z)];rfl
 have c:(again all (dB q+U) (lB j+V)).length=lB j+V:=cG _ _ _;have W:N.toNat=lB j+V:=ω;have u:D.toNat=dB q+U:=ω;rw[ae,W,u,c]at r
 have X:b.step=({ b with x:=y,st:=6,aj:=b.aj++[bY.mk 0 N D],all:=all++again all (dB q+U) (lB j+V),rem:=rem-(lB j+V) },0):=by
  rw[IS.a6S b1];unfold IS.bn;rw[b3,b5,m1];simp only;rw[a8 δ,a8 ω,m2,show((q:Int)).toNat=q by omega,a8 (by rw[ae,aR];omega),nu,lJ (aR _ _)];unfold IS.text;rw[a8 (by rw[b7];omega)];unfold IS.emit;simp only;rw[b7,b8,b6,c,a8 ω,aA (by rw[c];omega),show((lB j+V:Nat):Int)=N by omega,show((dB q+U:Nat):Int)=D by omega,b3]
 have O:=IS.Steps.one (s:=t) (by rw[m]);rw[m]at O;have M:=O.tail (by rw[X]);rw[X]at M;rw[W,u];refine⟨_,M, ⟨rfl,b2,b3,b4,rfl,rfl, ?_,b9,Y9, ?_⟩⟩
 · show rem-(lB j+V)=_;rw[ae,c];omega
 show b.aj++_=_;rw[PZ]
theorem BW (g:bg lit 15=0) (i:bg bn 15=0) (f:lit.length<=288):∀(l:List bY) (t:IS) (all na:ag) (rem:Nat) (aj:List bY),Cw t lit bn last (iZ lit bn l++y) all rem kinds stops aj->(∀k∈l,cn k/\(0<=k.lit/\k.lit<256)/\vY lit bn k)->expand all l=(0,na)->na.length<=all.length+rem->
  ∃d,IS.Steps t d/\Cw d lit bn last y na (rem-(na.length-all.length)) kinds stops (aj++l)
 | [],t,all,na,rem,aj,h,_,he,_=>by
   have e:all=na:=by simpa [expand] using he
   subst e;exact⟨t, .refl t,by rw[ak,dL,Nat.sub_zero];exact h⟩
 | k::l,t,all,na,rem,aj,h,hk,he,hr=>by
   rw[jR]at he;obtain⟨s,r,p⟩ :=hk k aI;by_cases a:(step all k).1=0
   rotate_left
   · rw[a8 a]at he;rw[he]at a;exact absurd rfl a
   rw[aa a]at he;have x:=Xt a;have b:step all k=(0,(step all k).2):=by rw[<-a]
   have v:(step all k).2.length<=na.length:=by
    obtain⟨z,hz⟩ :=sU (out:=(step all k).2) (l:=l) (by rw[he]);rw[he]at hz;rw[show na=(step all k).2++z from hz,ae];omega
   have h':Cw t lit bn last (sM lit bn k++(iZ lit bn l++y)) all rem kinds stops aj:=by
    have:iZ lit bn (k::l)++y=sM lit bn k++(iZ lit bn l++y):=by
     show(sM lit bn k++iZ lit bn l)++y=_;rw[av]
    rw[<-this];exact h
   obtain⟨m,o,w⟩ :=Sp h' g i f s r p b ω;obtain⟨j,n,c⟩ :=BW g i f l m _ na _ _ w (λq u=>hk q (aJ _ u)) he ω;refine⟨j,o.trans n, ?_⟩;rw[av]at c;have e:rem-((step all k).2.length-all.length)-(na.length-(step all k).2.length)=rem-(na.length-all.length):=ω;rw[e]at c;exact c
theorem Dg {l:List bY} {a:ag} (h:Cw t lit bn last (ke lit bn l++y) all rem kinds stops aj) (i:bg lit 15=0) (s:bg bn 15=0) (p:lit.length<=288) (d:1<=ix lit 256) (q:∀k∈l,cn k/\(0<=k.lit/\k.lit<256)/\vY lit bn k) (r:expand all l=(0,a)) (o:a.length<=all.length+rem):
  ∃f,IS.Steps t ({ f with x:=y }:IS).over/\Cw f lit bn last (cN lit 256++y) a (rem-(a.length-all.length)) kinds stops (aj++l):=by
 have h':Cw t lit bn last (iZ lit bn l++(cN lit 256++y)) all rem kinds stops aj:=by
  have:ke lit bn l++y=iZ lit bn l++(cN lit 256++y):=by unfold ke;rw[av]
  rw[<-this];exact h
 obtain⟨c,j,b⟩ :=BW i s p l t all a rem aj h' q r o;obtain⟨n,m⟩ :=tv i d y
 have e:c.step=(({ c with x:=y }:IS).over,0):=by
  rw[IS.Xq b.st];unfold IS.token;rw[b.lt,b.x,n];simp only;rw[a8 δ,a8 δ,aa δ,m]
 have g:=j.tail (by rw[e]);rw[e]at g;exact⟨c,g,b⟩
end
end Go.Proofs.YtgiimmkmjpbecaaGreat
