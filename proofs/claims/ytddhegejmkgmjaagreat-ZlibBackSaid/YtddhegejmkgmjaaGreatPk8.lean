/-
  part
-/
import Derived.Test.YtddhegejmkgmjaaGreatPk6
import Derived.Test.YtddhegejmkgmjaaGreatPk7
import Derived.Test.YtddhegejmkgmjaaGreatPk4
set_option linter.unusedVariables false
set_option maxRecDepth 100000
set_option maxHeartbeats 4000000
namespace Go.Proofs.YtddhegejmkgmjaaGreat
open Go Go.RowKit
theorem KY (x:List Int) {n:Nat} (h:n<x.length):x.take (n+1)=x.take n++[ix x n]:=by
 rw[List.take_succ_eq_append_getElem h];congr 2;simp [ix,h]
theorem Om (x:List Int) {n:Nat} (h:n<=x.length):hv x n=bW (x.take n).reverse:=by
 induction n with
 | zero=>rfl
 | succ n a=>
   rw[KY x ω,List.reverse_append,hv,a ω];show _=ix x n+2*bW (x.take n).reverse
   omega
theorem bc.rev {l:List Int} (h:bc l):bc l.reverse:=λx a=>h x (List.mem_reverse.1 a)
theorem vN (l:List Int) (s:Nat):aM l s=(aX (bQ l s) (ix l s).toNat).reverse:=by
 have h:=qx (bc.rev (bc.aX (bQ l s) (ix l s).toNat));rw[List.length_reverse,af]at h;exact h
theorem cI (l:List Int) (s:Nat):(aM l s).length=(ix l s).toNat:=by unfold aM;rw[af]
theorem bc.sym (l:List Int) (s:Nat):bc (aM l s):=bc.aX _ _
theorem gu {l:List Int} {most:Int} (h:ai l most=0):l.length<=288/\(∀i,i<l.length->0<=ix l i/\ix l i<=15)/\sumTo l l.length<=32768:=by
 unfold ai at h
 split at h
 · simp at h
 · split at h
   · simp at h
   · split at h
     · simp at h
     · rename_i c a b
       refine⟨ω, ?_,ω⟩;have:rJ l most l.length=true:=by simpa using a
       have h4:∀i,i<l.length->0<=ix l i/\ix l i<=most:=by simpa [rJ] using this
       exact λi hi=> ⟨(h4 i hi).1,by have:=(h4 i hi).2;omega⟩
theorem Te {l:List Int} {m:Nat} (b:1<=m) (a:m<=15):(jd l m+cnt l l.length m)*kX m=BF l l.length m:=by
 obtain⟨u,rfl⟩ :∃u,m=u+1:= ⟨m-1,ω⟩;rw[Nat.add_mul,IE l (u+1) b a];rfl
theorem GS {l:List Int} {s N m:Nat} (x:List Int) (e:ix l s=N) (g:1<=N) (f:N<=15) (b:s<l.length) (d:sumTo l l.length<=32768) (a:x.take N=aM l s) (c:m<=N) (h:N<=x.length):hv x m=((bQ l s/2 ^ (N-m):Nat):Int):=by
 have i:=Jp g f e b d;rw[Om x ω];have:x.take m=(aM l s).take m:=by rw[<-a,List.take_take,Nat.min_eq_left c]
 rw[this,vN,e,Int.toNat_natCast,List.reverse_take,List.reverse_reverse,List.length_reverse,af,oc (bc.aX _ _),cP];rw[Int.emod_eq_of_lt ω (by rw[<-gq];omega)];rw[Int.natCast_ediv,gq]
theorem DZ {l:List Int} {s N:Nat} (x:List Int) (e:ix l s=N) (j:1<=N) (f:N<=15) (g:s<l.length) (p:sumTo l l.length<=32768) (k:x.take N=aM l s) (o:N<=x.length):ae l x=((s:Int),N,0):=by
 have r:=l8 j f e;have v:=l7 g e
 have n:∀m,m<N->fh l x m=0:=by
  intro m
  induction m with
  | zero=>intro _;rfl
  | succ m t=>
    intro q;rw[fq (t ω),if_neg];unfold rz;rw[GS x e j f g p k (Nat.le_of_lt q) o];have a:=Te (l:=l) (show 1<=m+1 by omega) ω
    have b:BF l l.length (m+1)<=placeOf l s:=by
     rw[vp j f e];have:=Eb l l.length (show m+1<=N-1 by omega);omega
    unfold placeOf at b;rw[e,Int.toNat_natCast,<-a,IL (Nat.le_of_lt q) f,<-Nat.mul_assoc]at b;have c:=Nat.le_of_mul_le_mul_right b (rP N).1;have d:=(Nat.le_div_iff_mul_le (Nat.two_pow_pos (N-(m+1)))).2 c;simp only [decide_eq_true_eq];omega
 have i:fh l x N=N:=by
  obtain⟨u,rfl⟩ :∃u,N=u+1:= ⟨N-1,ω⟩;rw[fq (n u ω),if_pos];unfold rz;rw[GS x e j f g p k (Nat.le_refl _) o,Nat.sub_self,Nat.pow_zero,Nat.div_one,r];simp only [decide_eq_true_eq];omega
 have w:N<=o0 l 15:=by
  rcases Nat.lt_or_ge (o0 l 15) N with h | h
  · have:=xS l h f;omega
  · exact h
 have hF:fh l x (min x.length (o0 l 15))=N:=by rw[nV (m:=N) (by rw[i];omega) ω,i]
 rw[kO];unfold De;rw[hF,if_pos ω,GS x e j f g p k (Nat.le_refl _) o,Nat.sub_self,Nat.pow_zero,Nat.div_one,r];have:(((jd l N+cnt l s N:Nat):Int)-(jd l N:Int)).toNat=cnt l s N:=ω;rw[this];unfold xi;rw[zZ l g e]
theorem OI {l x:List Int} (i:bc x) (h:(ae l x).2.2=0):∃s N:Nat,ae l x=((s:Int),N,0)/\s<l.length/\ix l s=N/\1<=N/\N<=15/\N<=x.length/\x.take N=aM l s:=by
 have hp:=eo h;rw[kO]at h hp⊢;obtain⟨F,hF⟩ :=ν (fh l x (min x.length (o0 l 15)));unfold De at h hp⊢;rw[hF]at h hp⊢;by_cases g:F=0
 · rw[if_neg ω]at h
   split at h
   · simp at h
   · split at h <;> simp at h
 · rw[if_pos g]at hp⊢;simp only at hp
   have hit:rz l x F=true/\∀m,m<F->fh l x m=0:=by
    have d:∀M,fh l x M=F->rz l x F=true/\∀m,m<F->fh l x m=0:=by
     intro M
     induction M with
     | zero=>intro b;exact absurd b.symm g
     | succ M q=>
       intro b;by_cases e:fh l x M=0
       · rw[fq e]at b
         split at b
         · rename_i u
           subst b;exact⟨u,λm t=>Fq e m ω⟩
         · omega
       · exact q ((nV e (Nat.le_succ M)).symm.trans b)
    exact d _ hF
   obtain⟨p,rfl⟩ :∃p,F=p+1:= ⟨F-1,ω⟩;have y:=Ol i (n:=p) (λm t=>hit.2 m ω);have c:=hit.1;unfold rz at c;simp only [decide_eq_true_eq]at c;obtain⟨J,z⟩ :=Int.eq_ofNat_of_zero_le (show 0<=hv x (p+1)-(jd l (p+1):Int) by omega);obtain⟨s,f,a,hs3,r⟩ :=xM l (n:=p+1) (j:=J) (k:=l.length) ω;refine⟨s,p+1, ?_,f,a,ω,hp.2.2,hp.2.1, ?_⟩
   · have:(hv x (p+1)-(jd l (p+1):Int)).toNat=J:=ω;rw[this];unfold xi;rw[r]
   · have v:=l8 (show 1<=p+1 by omega) hp.2.2 a;rw[vN,a,Int.toNat_natCast,v,hs3];have w:((jd l (p+1)+J:Nat):Int)=bW (x.take (p+1)).reverse:=by rw[<-Om x hp.2.1];omega
     have o:=qx (bc.rev (i.oL (p+1)));rw[List.length_reverse,List.length_take,Nat.min_eq_left hp.2.1]at o;rw[w,o,List.reverse_reverse]
def xQ (B:Nat->Nat) (n:Int):Nat->Nat
 | 0=>0
 | t+1=>if((B (t+1):Nat):Int)<=n then t+1 else xQ B n t
theorem pd {B:Nat->Nat} {n:Int} (c:((B 0:Nat):Int)<=n):∀top,mL B top n (xQ B n top)
 | 0=> ⟨Nat.le_refl _,c,λi b a=>by simp [xQ]at b;omega⟩
 | t+1=>by
   unfold xQ;by_cases h:((B (t+1):Nat):Int)<=n
   · rw[if_pos h];exact⟨Nat.le_refl _,h,λi b a=>ω⟩
   · rw[if_neg h];obtain⟨b,a,d⟩ :=pd c t;refine⟨ω,a,λi h4 h5=> ?_⟩;by_cases e:i=t+1
     · subst e;omega
     · exact d i h4 ω
def ej (n:Int):Nat:=xQ lB n 28
def bO (n:Int):Nat:=xQ dB n 29
theorem iB {n:Int} (h:3<=n):mL lB 28 n (ej n):=pd (by show((3:Nat):Int)<=n;omega) 28
theorem fT {n:Int} (h:1<=n):mL dB 29 n (bO n):=pd (by show((1:Nat):Int)<=n;omega) 29
theorem ug {n:Int} {v:Value} (h:eI lB lE 3 258 257 28 n v) (b:3<=n/\n<=258):v= .tuple #[.int .i64 (257+((ej n:Nat):Int)), .int .i64 ((lE (ej n):Nat):Int), .int .i64 (n-((lB (ej n):Nat):Int))]:=by
 rcases h with ⟨h,_⟩ | ⟨_,j,a,h⟩
 · omega
 · rw[h,a.uniq (iB b.1)]
theorem qZ {n:Int} {v:Value} (h:eI dB dE 1 32768 0 29 n v) (b:1<=n/\n<=32768):v= .tuple #[.int .i64 ((bO n:Nat):Int), .int .i64 ((dE (bO n):Nat):Int), .int .i64 (n-((dB (bO n):Nat):Int))]:=by
 rcases h with ⟨h,_⟩ | ⟨_,j,a,h⟩
 · omega
 · rw[h,a.uniq (fT b.1),Int.zero_add]
def nN (lit ak:List Int) (t:aF):List Int:=
 if t.len=0 then aM lit t.lit.toNat
 else aM lit (257+ej t.len)++aX (t.len-((lB (ej t.len):Nat):Int)) (lE (ej t.len))++aM ak (bO t.ak)++aX (t.ak-((dB (bO t.ak):Nat):Int)) (dE (bO t.ak))
def dS (lit ak:List Int) (l:List aF):List Int:=l.flatMap (nN lit ak)
def fp (lit ak:List Int) (l:List aF):List Int:=dS lit ak l++aM lit 256
theorem yu (lit ak:List Int) (a b:List aF):dS lit ak (a++b)=dS lit ak a++dS lit ak b:=by simp [dS]
theorem yv (lit ak:List Int) (t:aF):dS lit ak [t]=nN lit ak t:=by simp [dS]
theorem qJ {l:List aF} {k:Nat} (h:k<l.length):l.take (k+1)=l.take k++[bq l k]:=by
 rw[List.take_succ_eq_append_getElem h];simp [bq,h]
theorem kt {l:List Int} (h:∀i,i<l.length->0<=ix l i/\ix l i<=15) (s:Nat):(aM l s).length<=15:=by
 rw[cI];by_cases e:s<l.length
 · have:=h s e;omega
 · have:ix l s=0:=by unfold ix;rw[List.getD_eq_getElem?_getD,List.getElem?_eq_none ω];rfl
   rw[this];exact Nat.zero_le _
theorem nO {t:aF} (h:aH t) (a:t.len≠0):(3<=t.len/\t.len<=258)/\(1<=t.ak/\t.ak<=32768)/\ej t.len<=28/\bO t.ak<=29:=by
 unfold aH at h;rw[if_neg a]at h;exact⟨⟨h.2.1,h.2.2.1⟩, ⟨h.2.2.2.1,h.2.2.2.2⟩,(iB h.2.1).1,(fT h.2.2.2.1).1⟩
theorem Yf {lit ak:List Int} (b:∀i,i<lit.length->0<=ix lit i/\ix lit i<=15) (hd:∀i,i<ak.length->0<=ix ak i/\ix ak i<=15) {t:aF} (h:aH t):(nN lit ak t).length<=48:=by
 unfold nN;by_cases a:t.len=0
 · rw[if_pos a];have:=kt b t.lit.toNat;omega
 · rw[if_neg a];obtain⟨_,_,d,h4⟩ :=nO h a;have h5:=(CW (ej t.len) ω).2.2;have h6:=(Fc (bO t.ak) ω).2.2;have h7:=kt b (257+ej t.len);have c:=kt hd (bO t.ak);rw[List.length_append,List.length_append,List.length_append,af,af];omega
theorem tU {lit ak:List Int} (a:∀i,i<lit.length->0<=ix lit i/\ix lit i<=15) (hd:∀i,i<ak.length->0<=ix ak i/\ix ak i<=15):∀l:List aF,(∀t∈l,aH t)->(dS lit ak l).length<=48*l.length
 | [],_=>by simp [dS]
 | t::l,h=>by
   have d:=Yf a hd (h t List.mem_cons_self);have c:=tU a hd l λu b=>h u (List.mem_cons_of_mem _ b)
   show(nN lit ak t++dS lit ak l).length<=_
   rw[List.length_append,List.length_cons];omega
section
variable {s t:IS} {x y b:List Int} {n m:Nat}
theorem IS.Dj (s:IS) (h:y.length%8=0):(s.app y).over=s.over.app y:=by
 unfold IS.over;have a:(s.app y).last=s.last:=rfl;rw[a]
 split
 · show IS.mk (gO (s.x++y)) _ _ _ _ _ _ _ _ _ _ _ _ _ _ _ _=_
   rw[BV h];rfl
 · rfl
theorem IS.dv (a:s.step.2≠5) (p:y.length%8=0):(s.app y).step=(s.step.1.app y,s.step.2):=by
 have b:∀x:List Int,(x++y).length=x.length+y.length:=λx=>List.length_append
 have q:(s.app y).st=s.st:=rfl;have f:(s.app y).x=s.x++y:=rfl;unfold IS.step at a⊢;rw[q];by_cases v:s.st=0
 · simp only [if_pos v]at a⊢;unfold IS.block at a⊢;by_cases c:s.x.length<3
   · rw[if_pos c]at a;simp at a
   rw[if_neg c,if_neg (by rw[f,b];omega),f,ji ω,di ω,BV p]
   split
   · rfl
   split
   · rfl
   split
   · rfl
   · rfl
 simp only [if_neg v]at a⊢;by_cases u:s.st=1
 · simp only [if_pos u]at a⊢;unfold IS.size at a⊢;by_cases c:s.x.length<32
   · rw[if_pos c]at a;simp at a
   rw[if_neg c,if_neg (by rw[f,b];omega),f,ji ω,di ω]
   split
   · rfl
   · rfl
 simp only [if_neg u]at a⊢;by_cases t:s.st=2
 · simp only [if_pos t]at a⊢;unfold IS.stored at a⊢;have j:(s.app y).left=s.left:=rfl;rw[j];by_cases h:s.left=0
   · rw[if_pos h,if_pos h,IS.Dj s p]
   rw[if_neg h]at a;rw[if_neg h,if_neg h];by_cases c:s.x.length<8
   · rw[if_pos c]at a;simp at a
   rw[if_neg c,if_neg (by rw[f,b];omega),f,ji ω,di ω];rfl
 simp only [if_neg t]at a⊢;by_cases r:s.st=3
 · simp only [if_pos r]at a⊢;unfold IS.sizes at a⊢;by_cases c:s.x.length<14
   · rw[if_pos c]at a;simp at a
   rw[if_neg c,if_neg (by rw[f,b];omega),f,ji ω,di ω]
   split
   · rfl
   · rfl
 simp only [if_neg r]at a⊢;by_cases h4:s.st=4
 · simp only [if_pos h4]at a⊢;unfold IS.heads at a⊢;have j:(s.app y).lens=s.lens:=rfl;have g:(s.app y).c2=s.c2:=rfl;rw[j,g];by_cases g:s.lens.length<s.c2
   · rw[if_pos g]at a;rw[if_pos g,if_pos g];by_cases c:s.x.length<3
     · rw[if_pos c]at a;simp at a
     rw[if_neg c,if_neg (by rw[f,b];omega),f,ji ω,di ω];rfl
   rw[if_neg g,if_neg g]
   split
   · rfl
   · rfl
 simp only [if_neg h4]at a⊢;by_cases h5:s.st=5
 · simp only [if_pos h5]at a⊢;unfold IS.lengths at a⊢;have j:(s.app y).lens=s.lens:=rfl;have n:(s.app y).c0=s.c0:=rfl;have m:(s.app y).c1=s.c1:=rfl;have l:(s.app y).hd=s.hd:=rfl;rw[j,n,m];by_cases g:s.lens.length<s.c0+s.c1
   · rw[if_pos g]at a;rw[if_pos g,if_pos g];unfold IS.length at a⊢;rw[l,f,j]
     have k:(ae s.hd s.x).2.2≠5:=by
      intro e;rw[if_pos (by rw[e];simp)]at a;exact a e
     rw[po _ _ _ k];by_cases e:(ae s.hd s.x).2.2≠0
     · rw[if_pos e,if_pos e]
     have hp:=eo (Decidable.not_not.1 e);rw[if_neg e]at a;rw[if_neg e,if_neg e,di ω];by_cases h6:(ae s.hd s.x).1<16
     · rw[if_pos h6,if_pos h6];rfl
     rw[if_neg h6]at a;rw[if_neg h6,if_neg h6];by_cases h7:(ae s.hd s.x).1=16/\s.lens.length=0
     · rw[if_pos h7,if_pos h7]
     rw[if_neg h7]at a;rw[if_neg h7,if_neg h7];by_cases d:(s.x.drop (ae s.hd s.x).2.1).length<IS.rW (ae s.hd s.x).1
     · rw[if_pos d]at a;simp at a
     rw[if_neg d,if_neg (by rw[b];omega)];unfold IS.fB;rw[ji ω,di ω,j,n,m]
     split
     · rfl
     · rfl
   rw[if_neg g,if_neg g]
   split
   · rfl
   · rfl
 simp only [if_neg h5]at a⊢;by_cases h6:s.st=6
 · simp only [if_pos h6]at a⊢;unfold IS.token at a⊢;have l:(s.app y).lt=s.lt:=rfl;rw[l,f]
   have k:(ae s.lt s.x).2.2≠5:=by
    intro e;rw[if_pos (by rw[e];simp)]at a;exact a e
   rw[po _ _ _ k];by_cases e:(ae s.lt s.x).2.2≠0
   · rw[if_pos e,if_pos e]
   have hp:=eo (Decidable.not_not.1 e);rw[if_neg e]at a;rw[if_neg e,if_neg e,di ω];by_cases h7:(ae s.lt s.x).1<256
   · rw[if_pos h7,if_pos h7];rfl
   rw[if_neg h7]at a;rw[if_neg h7,if_neg h7];by_cases d:(ae s.lt s.x).1=256
   · rw[if_pos d,if_pos d];have:=IS.Dj { s with x:=s.x.drop (ae s.lt s.x).2.1 } p;show(IS.over _,_)=_
     rw[<-this];rfl
   rw[if_neg d]at a;rw[if_neg d,if_neg d];by_cases o:285<(ae s.lt s.x).1
   · rw[if_pos o,if_pos o]
   rw[if_neg o]at a;rw[if_neg o,if_neg o];by_cases i:(s.x.drop (ae s.lt s.x).2.1).length<lE ((ae s.lt s.x).1-257).toNat
   · rw[if_pos i]at a;simp at a
   rw[if_neg i,if_neg (by rw[b];omega),ji ω,di ω];rfl
 simp only [if_neg h6]at a⊢;by_cases h7:s.st=7
 · simp only [if_pos h7]at a⊢;unfold IS.ak at a⊢;have l:(s.app y).ds=s.ds:=rfl;rw[l,f]
   have k:(ae s.ds s.x).2.2≠5:=by
    intro e;rw[if_pos (by rw[e];simp)]at a;exact a e
   rw[po _ _ _ k];by_cases e:(ae s.ds s.x).2.2≠0
   · rw[if_pos e,if_pos e]
   have hp:=eo (Decidable.not_not.1 e);rw[if_neg e]at a;rw[if_neg e,if_neg e,di ω];by_cases d:29<(ae s.ds s.x).1
   · rw[if_pos d,if_pos d]
   rw[if_neg d]at a;rw[if_neg d,if_neg d];by_cases i:(s.x.drop (ae s.ds s.x).2.1).length<dE (ae s.ds s.x).1.toNat
   · rw[if_pos i]at a;simp at a
   rw[if_neg i,if_neg (by rw[b];omega),ji ω,di ω];unfold IS.text;have w:(s.app y).all=s.all:=rfl;rw[w]
   split
   · rfl
   · rfl
 · simp only [if_neg h7]
theorem IS.Steps.app (h:IS.Steps s t) (a:y.length%8=0):IS.Steps (s.app y) (t.app y):=by
 induction h with
 | refl=>exact .refl _
 | @tail t h1 h2 ih=>
   have e:=IS.dv (s:=t) (y:=y) (by rw[h2];decide) a;have b:(t.app y).step.2=0:=by rw[e];exact h2
   have h4:=IS.Steps.tail ih b
   rwa [e]at h4
def IS.cap (s:IS) (m:Nat):IS:={ s with rem:=m }
theorem IS.dO (s:IS):s.emit []=(s,0):=by
 unfold IS.emit;rw[List.take_nil,List.append_nil,if_neg σ];rfl
theorem IS.DR (s:IS):∃(t:IS) (b:List Int) (e:Int),t.all=s.all/\e≠6/\∀m,(s.cap m).step=if e=0 then(t.cap m).emit b else(t.cap m,e):=by
 unfold IS.step;by_cases z:s.st=0
 · have:∀m,(s.cap m).st=0:=λm=>z
   simp only [this,if_true];unfold IS.block;by_cases a:s.x.length<3
   · exact⟨s,[],5,rfl,δ,λm=>if_pos a⟩
   have f:∀m,(s.cap m).x=s.x:=λm=>rfl
   simp only [f,if_neg a];by_cases j:num s.x 3/2=0
   · exact⟨{ s with last:=decide (num s.x 3%2=1),kinds:=s.kinds++[((num s.x 3/2:Nat):Int)],x:=gO (s.x.drop 3),st:=1 },[],0,rfl,δ,λm=>by rw[if_pos j,if_pos rfl,IS.dO];rfl⟩
   by_cases g:num s.x 3/2=1
   · exact⟨{ s with last:=decide (num s.x 3%2=1),kinds:=s.kinds++[((num s.x 3/2:Nat):Int)],x:=s.x.drop 3,lt:=cY,ds:=dP,st:=6 },[],0,rfl,δ,λm=>by rw[if_neg j,if_pos g,if_pos rfl,IS.dO];rfl⟩
   by_cases p:num s.x 3/2=2
   · exact⟨{ s with last:=decide (num s.x 3%2=1),kinds:=s.kinds++[((num s.x 3/2:Nat):Int)],x:=s.x.drop 3,st:=3 },[],0,rfl,δ,λm=>by rw[if_neg j,if_neg g,if_pos p,if_pos rfl,IS.dO];rfl⟩
   · exact⟨{ s with last:=decide (num s.x 3%2=1),kinds:=s.kinds++[((num s.x 3/2:Nat):Int)],x:=s.x.drop 3 },[],2,rfl,δ,λm=>by rw[if_neg j,if_neg g,if_neg p,if_neg δ];rfl⟩
 have J:∀m,¬(s.cap m).st=0:=λm=>z
 simp only [if_neg (J _)];have f:∀m,(s.cap m).x=s.x:=λm=>rfl
 by_cases j:s.st=1
 · have:∀m,(s.cap m).st=1:=λm=>j
   simp only [this,if_true];unfold IS.size;simp only [f];by_cases a:s.x.length<32
   · exact⟨s,[],5,rfl,δ,λm=>if_pos a⟩
   simp only [if_neg a];by_cases g:num s.x 32%65536+num s.x 32/65536=65535
   · exact⟨{ s with x:=s.x.drop 32,left:=num s.x 32%65536,st:=2 },[],0,rfl,δ,λm=>by rw[if_pos g,if_pos rfl,IS.dO];rfl⟩
   · exact⟨{ s with x:=s.x.drop 32 },[],2,rfl,δ,λm=>by rw[if_neg g,if_neg δ];rfl⟩
 have I:∀m,¬(s.cap m).st=1:=λm=>j
 simp only [if_neg (I _)]
 have y:∀s:IS,∀m,(s.cap m).over=s.over.cap m:=λs m=>by
  unfold IS.over;have:(s.cap m).last=s.last:=rfl;rw[this];split <;> rfl
 have w:∀s:IS,s.over.all=s.all:=λs=>by unfold IS.over;split <;> rfl
 by_cases g:s.st=2
 · have:∀m,(s.cap m).st=2:=λm=>g
   simp only [this,if_true];unfold IS.stored;have u:∀m,(s.cap m).left=s.left:=λm=>rfl
   simp only [f,u];by_cases u:s.left=0
   · exact⟨s.over,[],0,w s,δ,λm=>by rw[if_pos u,if_pos rfl,IS.dO,y]⟩
   simp only [if_neg u];by_cases a:s.x.length<8
   · exact⟨s,[],5,rfl,δ,λm=>if_pos a⟩
   · exact⟨{ s with x:=s.x.drop 8,left:=s.left-1 },[(num s.x 8:Int)],0,rfl,δ,λm=>by rw[if_neg a,if_pos rfl];rfl⟩
 have H:∀m,¬(s.cap m).st=2:=λm=>g
 simp only [if_neg (H _)];by_cases p:s.st=3
 · have:∀m,(s.cap m).st=3:=λm=>p
   simp only [this,if_true];unfold IS.sizes;simp only [f];by_cases a:s.x.length<14
   · exact⟨s,[],5,rfl,δ,λm=>if_pos a⟩
   simp only [if_neg a];by_cases h4:286<num s.x 14%32+257\/30<num s.x 14/32%32+1
   · exact⟨{ s with x:=s.x.drop 14 },[],2,rfl,δ,λm=>by rw[if_pos h4,if_neg δ];rfl⟩
   · exact⟨{ s with x:=s.x.drop 14,c0:=num s.x 14%32+257,c1:=num s.x 14/32%32+1,c2:=num s.x 14/1024+4,lens:=[],st:=4 },[],0,rfl,δ,λm=>by rw[if_neg h4,if_pos rfl,IS.dO];rfl⟩
 have G:∀m,¬(s.cap m).st=3:=λm=>p
 simp only [if_neg (G _)];have r:∀m,(s.cap m).lens=s.lens:=λm=>rfl
 by_cases h4:s.st=4
 · have:∀m,(s.cap m).st=4:=λm=>h4
   simp only [this,if_true];unfold IS.heads;have v:∀m,(s.cap m).c2=s.c2:=λm=>rfl
   simp only [f,r,v];by_cases c:s.lens.length<s.c2
   · simp only [if_pos c];by_cases a:s.x.length<3
     · exact⟨s,[],5,rfl,δ,λm=>if_pos a⟩
     · exact⟨{ s with x:=s.x.drop 3,lens:=s.lens++[(num s.x 3:Int)] },[],0,rfl,δ,λm=>by rw[if_neg a,if_pos rfl,IS.dO];rfl⟩
   simp only [if_neg c];by_cases h5:ai (dD s.lens) 7≠0\/cU s.lens=true
   · exact⟨s,[],3,rfl,δ,λm=>if_pos h5⟩
   · exact⟨{ s with hd:=dD s.lens,lens:=[],st:=5 },[],0,rfl,δ,λm=>by rw[if_neg h5,if_pos rfl,IS.dO];rfl⟩
 have F:∀m,¬(s.cap m).st=4:=λm=>h4
 simp only [if_neg (F _)];by_cases h5:s.st=5
 · have:∀m,(s.cap m).st=5:=λm=>h5
   simp only [this,if_true];unfold IS.lengths;have n:∀m,(s.cap m).c0=s.c0:=λm=>rfl
   have l:∀m,(s.cap m).c1=s.c1:=λm=>rfl
   have k:∀m,(s.cap m).hd=s.hd:=λm=>rfl
   simp only [r,n,l];by_cases c:s.lens.length<s.c0+s.c1
   · simp only [if_pos c];unfold IS.length;simp only [k,f,r];by_cases e:(ae s.hd s.x).2.2≠0
     · refine⟨s,[],(ae s.hd s.x).2.2,rfl, ?_,λm=>by rw[if_pos e,if_neg e]⟩;rcases bK s.hd s.x with h | h | h <;> omega
     simp only [if_neg e];by_cases h6:(ae s.hd s.x).1<16
     · exact⟨{ s with x:=s.x.drop (ae s.hd s.x).2.1,lens:=s.lens++[(ae s.hd s.x).1] },[],0,rfl,δ,λm=>by rw[if_pos h6,if_pos rfl,IS.dO];rfl⟩
     simp only [if_neg h6];by_cases h7:(ae s.hd s.x).1=16/\s.lens.length=0
     · exact⟨s,[],2,rfl,δ,λm=>if_pos h7⟩
     simp only [if_neg h7];by_cases i:(s.x.drop (ae s.hd s.x).2.1).length<IS.rW (ae s.hd s.x).1
     · exact⟨s,[],5,rfl,δ,λm=>if_pos i⟩
     simp only [if_neg i];unfold IS.fB;simp only [r,n,l];by_cases o:s.c0+s.c1<s.lens.length+(IS.rB (ae s.hd s.x).1+num (s.x.drop (ae s.hd s.x).2.1) (IS.rW (ae s.hd s.x).1))
     · exact⟨{ s with x:=(s.x.drop (ae s.hd s.x).2.1).drop (IS.rW (ae s.hd s.x).1) },[],2,rfl,δ,λm=>by rw[if_pos o,if_neg δ];rfl⟩
     · exact⟨{ s with x:=(s.x.drop (ae s.hd s.x).2.1).drop (IS.rW (ae s.hd s.x).1),lens:=s.lens++List.replicate (IS.rB (ae s.hd s.x).1+num (s.x.drop (ae s.hd s.x).2.1) (IS.rW (ae s.hd s.x).1)) (if(ae s.hd s.x).1=16 then ix s.lens (s.lens.length-1)else 0) },[],0,rfl,δ,λm=>by rw[if_neg o,if_pos rfl,IS.dO];rfl⟩
   simp only [if_neg c];by_cases h6:ai (s.lens.take s.c0) 15≠0\/ai (s.lens.drop s.c0) 15≠0\/ix s.lens 256=0
   · exact⟨s,[],3,rfl,δ,λm=>if_pos h6⟩
   · exact⟨{ s with lt:=s.lens.take s.c0,ds:=s.lens.drop s.c0,st:=6 },[],0,rfl,δ,λm=>by rw[if_neg h6,if_pos rfl,IS.dO];rfl⟩
 have E:∀m,¬(s.cap m).st=5:=λm=>h5
 simp only [if_neg (E _)];by_cases h6:s.st=6
 · have:∀m,(s.cap m).st=6:=λm=>h6
   simp only [this,if_true];unfold IS.token;have k:∀m,(s.cap m).lt=s.lt:=λm=>rfl
   simp only [k,f];by_cases e:(ae s.lt s.x).2.2≠0
   · refine⟨s,[],(ae s.lt s.x).2.2,rfl, ?_,λm=>by rw[if_pos e,if_neg e]⟩;rcases bK s.lt s.x with h | h | h <;> omega
   simp only [if_neg e];by_cases h7:(ae s.lt s.x).1<256
   · exact⟨{ s with x:=s.x.drop (ae s.lt s.x).2.1,a8:=s.a8++[aF.mk (ae s.lt s.x).1 0 0] },[(ae s.lt s.x).1],0,rfl,δ,λm=>by rw[if_pos h7,if_pos rfl];rfl⟩
   simp only [if_neg h7];by_cases i:(ae s.lt s.x).1=256
   · exact⟨({ s with x:=s.x.drop (ae s.lt s.x).2.1 }:IS).over,[],0,w _,δ,λm=>by rw[if_pos i,if_pos rfl,IS.dO,<-y];rfl⟩
   simp only [if_neg i];by_cases o:285<(ae s.lt s.x).1
   · exact⟨s,[],3,rfl,δ,λm=>if_pos o⟩
   simp only [if_neg o];by_cases d:(s.x.drop (ae s.lt s.x).2.1).length<lE ((ae s.lt s.x).1-257).toNat
   · exact⟨s,[],5,rfl,δ,λm=>if_pos d⟩
   · exact⟨{ s with x:=(s.x.drop (ae s.lt s.x).2.1).drop (lE ((ae s.lt s.x).1-257).toNat),len:=lB ((ae s.lt s.x).1-257).toNat+num (s.x.drop (ae s.lt s.x).2.1) (lE ((ae s.lt s.x).1-257).toNat),st:=7 },[],0,rfl,δ,λm=>by rw[if_neg d,if_pos rfl,IS.dO];rfl⟩
 have C:∀m,¬(s.cap m).st=6:=λm=>h6
 simp only [if_neg (C _)];by_cases h7:s.st=7
 · have:∀m,(s.cap m).st=7:=λm=>h7
   simp only [this,if_true];unfold IS.ak;have k:∀m,(s.cap m).ds=s.ds:=λm=>rfl
   simp only [k,f];by_cases e:(ae s.ds s.x).2.2≠0
   · refine⟨s,[],(ae s.ds s.x).2.2,rfl, ?_,λm=>by rw[if_pos e,if_neg e]⟩;rcases bK s.ds s.x with h | h | h <;> omega
   simp only [if_neg e];by_cases i:29<(ae s.ds s.x).1
   · exact⟨s,[],3,rfl,δ,λm=>if_pos i⟩
   simp only [if_neg i];by_cases d:(s.x.drop (ae s.ds s.x).2.1).length<dE (ae s.ds s.x).1.toNat
   · exact⟨s,[],5,rfl,δ,λm=>if_pos d⟩
   simp only [if_neg d];unfold IS.text;have A:∀m,(s.cap m).all=s.all:=λm=>rfl
   simp only [A];generalize (s.x.drop (ae s.ds s.x).2.1).drop (dE (ae s.ds s.x).1.toNat)=x1;generalize dB (ae s.ds s.x).1.toNat+num (s.x.drop (ae s.ds s.x).2.1) (dE (ae s.ds s.x).1.toNat)=D;by_cases q:s.all.length<D
   · exact⟨s,[],3,rfl,δ,λm=>if_pos q⟩
   · exact⟨{ s with x:=x1,st:=6,a8:=s.a8++[aF.mk 0 s.len D] },again s.all D s.len,0,rfl,δ,λm=>by rw[if_neg q,if_pos rfl];rfl⟩
 · have B:∀m,¬(s.cap m).st=7:=λm=>h7
   simp only [if_neg (B _)];exact⟨s,[],8,rfl,δ,λm=>rfl⟩
theorem IS.vL (s:IS):∃b,s.step.1.all=s.all++b/\s.step.1.rem+b.length=s.rem:=by
 obtain⟨t,b,e,c,f,d⟩ :=IS.DR s;have h4:=d s.rem;have h5:s.cap s.rem=s:=rfl;rw[h5]at h4;by_cases a:e=0
 · rw[if_pos a]at h4;rw[h4];refine⟨b.take s.rem, ?_, ?_⟩
   · show t.all++_=_
     rw[c];rfl
   · show s.rem-b.length+(b.take s.rem).length=s.rem
     rw[List.length_take];omega
 · rw[if_neg a]at h4;rw[h4];exact⟨[],by rw[List.append_nil];exact c,rfl⟩
theorem IS.Steps.out (h:IS.Steps s t):∃b,t.all=s.all++b/\t.rem+b.length=s.rem:=by
 induction h with
 | refl=>exact⟨[],σ,rfl⟩
 | @tail t h1 h2 ih=>
   obtain⟨b,a,h4⟩ :=ih;obtain⟨c,h5,h6⟩ :=IS.vL t;exact⟨b++c,by rw[h5,a,List.append_assoc],by rw[List.length_append];omega⟩
theorem IS.I3 (s:IS):∃b,s.fin.1.all=s.all++b/\s.fin.1.rem+b.length=s.rem:=by
 obtain⟨t,e,d⟩ :=IS.ft s;obtain⟨b,a,h4⟩ :=e.out;obtain⟨c,h5,h6⟩ :=IS.vL t;rw[<-d];exact⟨b++c,by rw[h5,a,List.append_assoc],by rw[List.length_append];omega⟩
theorem IS.PC (h:s.step.2≠6) (f:s.step.1.all=s.all++b):
  (b.length<=m->(s.cap m).step=(s.step.1.cap (m-b.length),s.step.2))/\(m<b.length->(s.cap m).step.2=6/\(s.cap m).step.1.all=s.all++b.take m):=by
 obtain⟨t,a,e,j,q,k⟩ :=IS.DR s;have h4:=k s.rem;have h5:s.cap s.rem=s:=rfl;rw[h5]at h4;rw[k m,h4];by_cases d:e=0
 · subst d;rw[if_pos rfl]at h4⊢;rw[h4]at h f
   have i:¬s.rem<a.length:=by
    intro g
    apply h
    show(if s.rem<a.length then(6:Int)else 0)=6
    rw[if_pos g]
   have n:a=b:=by
    have:t.all++a.take s.rem=s.all++b:=f;rw[j,List.take_of_length_le ω]at this;exact List.append_cancel_left this
   subst n;refine⟨λc=> ?_,λc=> ⟨?_, ?_⟩⟩
   · rw[if_pos rfl];unfold IS.emit;have p:(t.cap m).rem=m:=rfl;have o:(t.cap s.rem).rem=s.rem:=rfl;rw[p,o,if_neg ω,if_neg i,List.take_of_length_le ω,List.take_of_length_le ω];rfl
   · show(if m<a.length then(6:Int)else 0)=6
     rw[if_pos c]
   · show t.all++a.take m=_
     rw[j]
 · rw[if_neg d]at h4;rw[if_neg d,if_neg d];rw[h4]at f
   have l:b=[]:=by
    have:t.all=s.all++b:=f;rw[j]at this;have h6:s.all.length=s.all.length+b.length:=by conv=>lhs;rw[this,List.length_append]
    exact List.length_eq_zero_iff.1 ω
   subst l;exact⟨λ_=>rfl,λc=>by simp at c⟩
theorem IS.Steps.cap (h:IS.Steps s t):∀b,t.all=s.all++b->∀m,(b.length<=m->IS.Steps (s.cap m) (t.cap (m-b.length)))/\(m<b.length->(s.cap m).fin.2=6/\(s.cap m).fin.1.all=s.all++b.take m):=by
 induction h with
 | refl=>
   intro b f m
   obtain rfl:b=[]:=by
    have h6:=congrArg List.length f;rw[List.length_append]at h6;exact List.length_eq_zero_iff.1 ω
   exact⟨λ_=> .refl _,λa=>by simp at a⟩
 | @tail t h1 h2 ih=>
   intro b f m;obtain⟨c,j,h4⟩ :=h1.out;obtain⟨d,h5,h6⟩ :=IS.vL t
   have i:b=c++d:=by
    rw[h5,j,List.append_assoc]at f;exact(List.append_cancel_left f).symm
   subst i;rw[List.length_append];obtain⟨q,p⟩ :=ih c j m;by_cases n:c.length<=m
   · have l:=q n;obtain⟨b1,o⟩ :=IS.PC (s:=t) (b:=d) (m:=m-c.length) (by rw[h2];decide) h5;refine⟨λa=> ?_,λa=> ?_⟩
     · have e:=b1 ω;have:=IS.Steps.tail l (by rw[e];exact h2)
       rwa [e,show m-c.length-d.length=m-(c.length+d.length) by omega]at this
     · obtain⟨g,k⟩ :=o ω;rw[<-l.iv,IS.dn (by rw[g];decide)];refine⟨g, ?_⟩;rw[k,j,List.append_assoc,List.take_append,List.take_of_length_le n]
   · refine⟨λa=>ω,λa=> ?_⟩;obtain⟨g,k⟩ :=p ω;exact⟨g,by rw[k,List.take_append_of_le_length ω]⟩
end
structure IS.Ok (s:IS):Prop where
 bit:bc s.x
 even:s.st=1\/s.st=2\/s.st=8->s.x.length%8=0
 cc:s.st=4\/s.st=5->257<=s.c0/\s.c0<=286/\1<=s.c1/\s.c1<=30
 h4:s.st=4->s.c2<=19/\s.lens.length<=s.c2/\∀v∈s.lens,0<=v/\v<=7
 h5:s.st=5->s.lens.length<=s.c0+s.c1/\(∀v∈s.lens,0<=v/\v<=15)/\ai s.hd 7=0/\s.hd.length=19
 h6:s.st=6\/s.st=7->ai s.lt 15=0/\ai s.ds 15=0
 h7:s.st=7->3<=s.len/\s.len<=258
 left:s.left<=65535
 fC:∀v∈s.all,0<=v/\v<256
 st8:s.st<=8
section
variable {s t:IS} {x y b:List Int} {n m:Nat}
theorem IS.Ok.at0 (a:s.st=0\/s.st=3) (bit:bc s.x) (left:s.left<=65535) (fC:∀v∈s.all,0<=v/\v<256):s.Ok:=
 ⟨bit,λh=>ω,λh=>ω,λh=>ω,λh=>ω,λh=>ω,λh=>ω,left,fC,ω⟩
theorem IS.Ok.TJ (a:s.st=1\/s.st=2\/s.st=8) (bit:bc s.x) (left:s.left<=65535) (fC:∀v∈s.all,0<=v/\v<256) (even:s.x.length%8=0):s.Ok:=
 ⟨bit,λh=>even,λh=>ω,λh=>ω,λh=>ω,λh=>ω,λh=>ω,left,fC,ω⟩
theorem IS.Ok.TK (a:s.st=4) (bit:bc s.x) (left:s.left<=65535) (fC:∀v∈s.all,0<=v/\v<256) (cc:257<=s.c0/\s.c0<=286/\1<=s.c1/\s.c1<=30)
  (h4:s.c2<=19/\s.lens.length<=s.c2/\∀v∈s.lens,0<=v/\v<=7):s.Ok:=
 ⟨bit,λh=>ω,λh=>cc,λh=>h4,λh=>ω,λh=>ω,λh=>ω,left,fC,ω⟩
theorem IS.Ok.Yz (a:s.st=5) (bit:bc s.x) (left:s.left<=65535) (fC:∀v∈s.all,0<=v/\v<256) (cc:257<=s.c0/\s.c0<=286/\1<=s.c1/\s.c1<=30)
  (h5:s.lens.length<=s.c0+s.c1/\(∀v∈s.lens,0<=v/\v<=15)/\ai s.hd 7=0/\s.hd.length=19):s.Ok:=
 ⟨bit,λh=>ω,λh=>cc,λh=>ω,λh=>h5,λh=>ω,λh=>ω,left,fC,ω⟩
theorem IS.Ok.YA (a:s.st=6\/s.st=7) (bit:bc s.x) (left:s.left<=65535) (fC:∀v∈s.all,0<=v/\v<256) (h6:ai s.lt 15=0/\ai s.ds 15=0)
  (h7:s.st=7->3<=s.len/\s.len<=258):s.Ok:=
 ⟨bit,λh=>ω,λh=>ω,λh=>ω,λh=>ω,λh=>h6,h7,left,fC,ω⟩
theorem cO {x:List Int} (h:bc x) (n:Nat):num x n<2 ^ n:=by
 have c:=fy (h.oL n);have b:=cK (show(x.take n).length<=n by simp;omega);have a:((2 ^ n:Nat):Int)=2 ^ n:=σ;unfold num;omega
theorem lO {x:List Int} (h:bc x) (n:Nat):((num x n:Nat):Int)=bW (x.take n):=by
 have a:=fy (h.oL n);unfold num;omega
theorem bc.gO {x:List Int} (h:bc x):bc (gO x):=h.bu _
theorem iN (l:List Int):(dD l).length=19:=by simp [dD]
theorem iw:ai cY 15=0/\ai dP 15=0:=by decide+kernel
theorem Oy {j v:Nat} (a:j<29) (hv:v<2 ^ lE j):3<=lB j+v/\lB j+v<=258:=by
 have:∀j,j<29->3<=lB j/\lB j+2 ^ lE j<=259:=by decide+kernel
 have:=this j a;omega
theorem My {j v:Nat} (a:j<30) (hv:v<2 ^ dE j):1<=dB j+v/\dB j+v<=32768:=by
 have:∀j,j<30->1<=dB j/\dB j+2 ^ dE j<=32769:=by decide+kernel
 have:=this j a;omega
theorem IS.Ok.over (h:s.Ok):s.over.Ok:=by
 unfold IS.over
 split
 · exact .TJ (.inr (.inr rfl)) h.bit.gO h.left h.fC (by show(gO s.x).length%8=0;rw[iL];omega)
 · exact .at0 (.inl rfl) h.bit h.left h.fC
theorem IS.Ok.emit (h:s.Ok) {b:List Int} (c:∀v∈b,0<=v/\v<256):(s.emit b).1.Ok:=
 ⟨h.bit,h.even,h.cc,h.h4,h.h5,h.h6,h.h7,h.left,λv hv=>by
   rcases List.mem_append.1 hv with a | a
   · exact h.fC v a
   · exact c v (List.mem_of_mem_take a),h.st8⟩
theorem ie {l x:List Int} (a:bc x) (h:¬(ae l x).2.2≠0):∃k n:Nat,ae l x=((k:Int),n,0)/\k<l.length/\1<=n/\n<=15/\n<=x.length:=by
 obtain⟨k,n,c,b,d,h4,h5,h6,h7⟩ :=OI a (Decidable.not_not.1 h);exact⟨k,n,c,b,h4,h5,h6⟩
theorem Mc {l:List Int} (h:∀v∈l,0<=v/\v<256) (D N:Nat):∀v∈again l D N,0<=v/\v<256:=by
 intro v hv;unfold again at hv;obtain⟨i,_,rfl⟩ :=List.mem_map.1 hv;exact Iz h _
theorem IS.Ok.step (h:s.Ok) (e:s.step.2=0\/s.step.2=6):s.step.1.Ok:=by
 unfold IS.step at e⊢;by_cases G:s.st=0
 · rw[if_pos G]at e⊢;unfold IS.block at e⊢;by_cases c:s.x.length<3
   · rw[if_pos c]at e;simp at e
   rw[if_neg c]at e⊢;by_cases a:num s.x 3/2=0
   · rw[if_pos a];exact .TJ (.inl rfl) (h.bit.bu 3).gO h.left h.fC (by show(gO (s.x.drop 3)).length%8=0;rw[iL];omega)
   rw[if_neg a]at e⊢;by_cases g:num s.x 3/2=1
   · rw[if_pos g];exact .YA (.inl rfl) (h.bit.bu 3) h.left h.fC iw (λe=>by simp at e)
   rw[if_neg g]at e⊢;by_cases r:num s.x 3/2=2
   · rw[if_pos r];exact .at0 (.inr rfl) (h.bit.bu 3) h.left h.fC
   · rw[if_neg r]at e;simp at e
 rw[if_neg G]at e⊢;by_cases a:s.st=1
 · rw[if_pos a]at e⊢;unfold IS.size at e⊢;by_cases c:s.x.length<32
   · rw[if_pos c]at e;simp at e
   rw[if_neg c]at e⊢;by_cases g:num s.x 32%65536+num s.x 32/65536=65535
   · rw[if_pos g];exact .TJ (.inr (.inl rfl)) (h.bit.bu 32) (by show num s.x 32%65536<=65535;omega) h.fC (by have:=h.even (.inl a);show(s.x.drop 32).length%8=0;rw[List.length_drop];omega)
   · rw[if_neg g]at e;simp at e
 rw[if_neg a]at e⊢;by_cases g:s.st=2
 · rw[if_pos g]at e⊢;unfold IS.stored at e⊢;by_cases E:s.left=0
   · rw[if_pos E];exact h.over
   rw[if_neg E]at e⊢;by_cases c:s.x.length<8
   · rw[if_pos c]at e;simp at e
   rw[if_neg c];refine IS.Ok.emit (s:={ s with x:=s.x.drop 8,left:=s.left-1 }) (.TJ (.inr (.inl g)) (h.bit.bu 8) (by have:=h.left;show s.left-1<=65535;omega) h.fC (by have:=h.even (.inr (.inl g));show(s.x.drop 8).length%8=0;rw[List.length_drop];omega)) ?_;intro v hv;simp at hv;subst hv;have:=cO h.bit 8;omega
 rw[if_neg g]at e⊢;by_cases r:s.st=3
 · rw[if_pos r]at e⊢;unfold IS.sizes at e⊢;by_cases c:s.x.length<14
   · rw[if_pos c]at e;simp at e
   rw[if_neg c]at e⊢;by_cases h4:286<num s.x 14%32+257\/30<num s.x 14/32%32+1
   · rw[if_pos h4]at e;simp at e
   rw[if_neg h4];have J:=cO h.bit 14;refine .TK rfl (h.bit.bu 14) h.left h.fC ?_ ?_
   · show 257<=num s.x 14%32+257/\num s.x 14%32+257<=286/\1<=num s.x 14/32%32+1/\num s.x 14/32%32+1<=30
     omega
   · refine⟨?_,Nat.zero_le _,λv hv=>by simp at hv⟩;show num s.x 14/1024+4<=19
     omega
 rw[if_neg r]at e⊢;by_cases h4:s.st=4
 · rw[if_pos h4]at e⊢;unfold IS.heads at e⊢;obtain⟨z,w,u⟩ :=h.h4 h4;have d:=h.cc (.inl h4);by_cases o:s.lens.length<s.c2
   · rw[if_pos o]at e⊢;by_cases c:s.x.length<3
     · rw[if_pos c]at e;simp at e
     rw[if_neg c];refine .TK h4 (h.bit.bu 3) h.left h.fC d ⟨z, ?_, ?_⟩
     · show(s.lens++[_]).length<=s.c2
       simp;omega
     · intro v hv;rcases List.mem_append.1 hv with a | a
       · exact u v a
       · simp at a;subst a;have:=cO h.bit 3;omega
   rw[if_neg o]at e⊢;by_cases h5:ai (dD s.lens) 7≠0\/cU s.lens=true
   · rw[if_pos h5]at e;simp at e
   rw[if_neg h5];exact .Yz rfl h.bit h.left h.fC d ⟨Nat.zero_le _,λv hv=>by simp at hv,Decidable.not_not.1 λh6=>h5 (.inl h6),iN _⟩
 rw[if_neg h4]at e⊢;by_cases h5:s.st=5
 · rw[if_pos h5]at e⊢;unfold IS.lengths at e⊢;obtain⟨z,w,u,y⟩ :=h.h5 h5;have d:=h.cc (.inr h5);by_cases o:s.lens.length<s.c0+s.c1
   · rw[if_pos o]at e⊢;unfold IS.length at e⊢;by_cases f:(ae s.hd s.x).2.2≠0
     · rw[if_pos f]at e;rcases bK s.hd s.x with h6 | h6 | h6 <;> omega
     rw[if_neg f]at e⊢;obtain⟨k,n,l,F,C,B,A⟩ :=ie h.bit f;rw[l]at e⊢;simp only at e⊢;by_cases h6:(k:Int)<16
     · rw[if_pos h6];refine .Yz h5 (h.bit.bu _) h.left h.fC d ⟨?_, ?_,u,y⟩
       · show(s.lens++[_]).length<=s.c0+s.c1
         simp;omega
       · intro v hv;rcases List.mem_append.1 hv with a | a
         · exact w v a
         · simp at a;subst a;omega
     rw[if_neg h6]at e⊢;by_cases h7:(k:Int)=16/\s.lens.length=0
     · rw[if_pos h7]at e;simp at e
     rw[if_neg h7]at e⊢;by_cases i:(s.x.drop n).length<IS.rW k
     · rw[if_pos i]at e;simp at e
     rw[if_neg i]at e⊢;unfold IS.fB at e⊢;by_cases q:s.c0+s.c1<s.lens.length+(IS.rB k+num (s.x.drop n) (IS.rW k))
     · rw[if_pos q]at e;simp at e
     rw[if_neg q];refine .Yz h5 ((h.bit.bu _).bu _) h.left h.fC d ⟨?_, ?_,u,y⟩
     · show(s.lens++List.replicate _ _).length<=s.c0+s.c1
       rw[List.length_append,List.length_replicate];omega
     · intro v hv;rcases List.mem_append.1 hv with a | a
       · exact w v a
       · rw[List.eq_of_mem_replicate a]
         split
         · rename_i b
           unfold ix;have hp:s.lens.length≠0:=λI=>h7 ⟨b,I⟩
           rw[List.getD_eq_getElem?_getD,List.getElem?_eq_getElem (show s.lens.length-1<s.lens.length by omega)];exact w _ (List.getElem_mem _)
         · omega
   rw[if_neg o]at e⊢;by_cases h6:ai (s.lens.take s.c0) 15≠0\/ai (s.lens.drop s.c0) 15≠0\/ix s.lens 256=0
   · rw[if_pos h6]at e;simp at e
   rw[if_neg h6];exact .YA (.inl rfl) h.bit h.left h.fC ⟨Decidable.not_not.1 λh7=>h6 (.inl h7),Decidable.not_not.1 λh7=>h6 (.inr (.inl h7))⟩ (λe=>by simp at e)
 rw[if_neg h5]at e⊢;by_cases h6:s.st=6
 · rw[if_pos h6]at e⊢;unfold IS.token at e⊢;have m:=h.h6 (.inl h6);by_cases f:(ae s.lt s.x).2.2≠0
   · rw[if_pos f]at e;rcases bK s.lt s.x with h6 | h6 | h6 <;> omega
   rw[if_neg f]at e⊢;obtain⟨k,n,l,F,C,B,A⟩ :=ie h.bit f;rw[l]at e⊢;simp only at e⊢;by_cases h7:(k:Int)<256
   · rw[if_pos h7];refine IS.Ok.emit (s:={ s with x:=s.x.drop n,a8:=s.a8++[aF.mk (k:Int) 0 0] }) (.YA (.inl h6) (h.bit.bu _) h.left h.fC m (λe=>by simp [h6]at e)) ?_;intro v hv;simp at hv;subst hv;omega
   rw[if_neg h7]at e⊢;by_cases i:(k:Int)=256
   · rw[if_pos i];exact IS.Ok.over (s:={ s with x:=s.x.drop n }) (.YA (.inl h6) (h.bit.bu _) h.left h.fC m (λe=>by simp [h6]at e))
   rw[if_neg i]at e⊢;by_cases q:285<(k:Int)
   · rw[if_pos q]at e;simp at e
   rw[if_neg q]at e⊢;obtain⟨j,H⟩ :=ν (((k:Int)-257).toNat);rw[H]at e⊢;by_cases b:(s.x.drop n).length<lE j
   · rw[if_pos b]at e;simp at e
   rw[if_neg b];exact .YA (.inr rfl) ((h.bit.bu _).bu _) h.left h.fC m (λ_=>Oy ω (cO (h.bit.bu _) _))
 rw[if_neg h6]at e⊢;by_cases h7:s.st=7
 · rw[if_pos h7]at e⊢;unfold IS.ak at e⊢;have m:=h.h6 (.inr h7);by_cases f:(ae s.ds s.x).2.2≠0
   · rw[if_pos f]at e;rcases bK s.ds s.x with h6 | h6 | h6 <;> omega
   rw[if_neg f]at e⊢;obtain⟨k,n,l,F,C,B,A⟩ :=ie h.bit f;rw[l]at e⊢;simp only at e⊢;by_cases i:29<(k:Int)
   · rw[if_pos i]at e;simp at e
   rw[if_neg i]at e⊢;by_cases b:(s.x.drop n).length<dE (k:Int).toNat
   · rw[if_pos b]at e;simp at e
   rw[if_neg b]at e⊢;unfold IS.text at e⊢;have p:bc ((s.x.drop n).drop (dE (k:Int).toNat)):=(h.bit.bu _).bu _;generalize (s.x.drop n).drop (dE (k:Int).toNat)=x1 at e p⊢;generalize dB (k:Int).toNat+num (s.x.drop n) (dE (k:Int).toNat)=D at e⊢;by_cases t:s.all.length<D
   · rw[if_pos t]at e;simp at e
   rw[if_neg t];exact IS.Ok.emit (s:={ s with x:=x1,st:=6,a8:=s.a8++[aF.mk 0 s.len D] }) (.YA (.inl rfl) p h.left h.fC m (λe=>by simp at e)) (Mc h.fC _ _)
 · rw[if_neg h7]at e;simp at e
theorem IS.Ok.steps (h:s.Ok) (a:IS.Steps s t):t.Ok:=by
 induction a with
 | refl=>exact h
 | tail _ h2 ih=>exact ih.step (.inl h2)
theorem IS.Ok.start {x:List Int} (h:bc x) (m:Nat):(start x m).Ok:= .at0 (.inl rfl) h (Nat.zero_le _) (λv hv=>by simp [Go.Proofs.YtddhegejmkgmjaaGreat.start]at hv)
theorem IS.step_done (h:s.step.2=8):s.step.1=s/\s.st≠0/\s.st≠1/\s.st≠2/\s.st≠3/\s.st≠4/\s.st≠5/\s.st≠6/\s.st≠7:=by
 unfold IS.step at h⊢;have a:∀(s:IS) b,(s.emit b).2≠8:=λs b=>by unfold IS.emit;simp only;split <;> decide
 by_cases f:s.st=0
 · rw[if_pos f]at h;unfold IS.block at h;exfalso;revert h;repeat' split
   all_goals simp
 rw[if_neg f]at h⊢;by_cases e:s.st=1
 · rw[if_pos e]at h;unfold IS.size at h;exfalso;revert h;repeat' split
   all_goals simp
 rw[if_neg e]at h⊢;by_cases d:s.st=2
 · rw[if_pos d]at h;unfold IS.stored at h;exfalso;revert h;repeat' split
   · simp
   · simp
   · exact a _ _
 rw[if_neg d]at h⊢;by_cases c:s.st=3
 · rw[if_pos c]at h;unfold IS.sizes at h;exfalso;revert h;repeat' split
   all_goals simp
 rw[if_neg c]at h⊢;by_cases h4:s.st=4
 · rw[if_pos h4]at h;unfold IS.heads at h;exfalso;revert h;repeat' split
   all_goals simp
 rw[if_neg h4]at h⊢;by_cases h5:s.st=5
 · rw[if_pos h5]at h;unfold IS.lengths IS.length IS.fB at h;exfalso;have:=bK s.hd s.x;revert h;repeat' split
   all_goals (intro h;simp at h <;> omega)
 rw[if_neg h5]at h⊢;by_cases h6:s.st=6
 · rw[if_pos h6]at h;unfold IS.token at h;exfalso;have:=bK s.lt s.x;revert h;repeat' split
   all_goals first
    | exact a _ _
    | (intro h;simp at h <;> omega)
 rw[if_neg h6]at h⊢;by_cases h7:s.st=7
 · rw[if_pos h7]at h;unfold IS.ak IS.text at h;exfalso;have:=bK s.ds s.x;revert h;repeat' split
   all_goals first
    | exact a _ _
    | (intro h;simp at h <;> omega)
 rw[if_neg h7];exact⟨rfl,f,e,d,c,h4,h5,h6,h7⟩
end
section
variable {s:IS} {B:List Int} {j:Nat}
theorem OM (b:∀x∈B,0<=x/\x<256) (a:j<B.length):((num (rb B (8*j)) 8:Nat):Int)=ix B j:=by
 rw[lO (bc.rb B _)];unfold rb;rw[C8 B a,cP];have:=Iz b j;have h:(2:Int) ^ 8=256:=rfl;rw[h];omega
theorem KZ {l:List Int} {j K:Nat} (h:j+K<l.length):(l.drop j).take (K+1)=(l.drop j).take K++[ix l (j+K)]:=by
 rw[List.take_succ_eq_append_getElem (by rw[List.length_drop];omega)];congr 1;simp [ix,List.getD_eq_getElem?_getD,List.getElem?_eq_getElem h]
theorem vM (e:∀x∈B,0<=x/\x<256) (a:s.st=2) (b:s.x=rb B (8*j)) (d:j<B.length) (c:s.left≠0):
  s.step={ s with x:=rb B (8*(j+1)),left:=s.left-1 }.emit [ix B j]:=by
 unfold IS.step;rw[if_neg ω,if_neg ω,if_pos a];unfold IS.stored;rw[if_neg c,if_neg (by rw[b,dm];omega),b,OM e d,fR,show 8*j+8=8*(j+1) by omega]
theorem lY (e:∀x∈B,0<=x/\x<256) (a:s.st=2) (d:s.x=rb B (8*j)) (K:Nat) (k:K<=s.left) (i:j+K<=B.length) (h:K<=s.rem):
  IS.Steps s { s with x:=rb B (8*(j+K)),left:=s.left-K,all:=s.all++(B.drop j).take K,rem:=s.rem-K }:=by
 induction K with
 | zero=>
   have:({ s with x:=rb B (8*(j+0)),left:=s.left-0,all:=s.all++(B.drop j).take 0,rem:=s.rem-0 }:IS)=s:=by
    rw[Nat.add_zero,<-d,List.take_zero,List.append_nil];rfl
   rw[this];exact .refl s
 | succ K c=>
   have g:=c ω ω ω;have f:=vM (s:={ s with x:=rb B (8*(j+K)),left:=s.left-K,all:=s.all++(B.drop j).take K,rem:=s.rem-K }) e a rfl ω (by show s.left-K≠0;omega)
   have b:IS.step { s with x:=rb B (8*(j+K)),left:=s.left-K,all:=s.all++(B.drop j).take K,rem:=s.rem-K }=({ s with x:=rb B (8*(j+(K+1))),left:=s.left-(K+1),all:=s.all++(B.drop j).take (K+1),rem:=s.rem-(K+1) },0):=by
    rw[f];unfold IS.emit;simp only;rw[if_neg ξ,List.take_of_length_le (l:=[ix B (j+K)]) ξ,KZ ω,List.append_assoc,show s.left-K-1=s.left-(K+1) by omega,show s.rem-K - [ix B (j+K)].length=s.rem-(K+1) by simp;omega];rfl
   have h4:=IS.Steps.tail g (by rw[b])
   rwa [b]at h4
theorem GP (b:∀x∈B,0<=x/\x<256) (a:s.st=2) (e:s.x=rb B (8*j)) (K:Nat) (i:K<=s.left) (h:j+K<=B.length) (g:s.rem<K):
  s.fin.2=6/\s.fin.1.all=s.all++(B.drop j).take s.rem:=by
 have f:=lY b a e s.rem ω ω (Nat.le_refl _);have d:=vM (s:={ s with x:=rb B (8*(j+s.rem)),left:=s.left-s.rem,all:=s.all++(B.drop j).take s.rem,rem:=s.rem-s.rem }) b a rfl ω (by show s.left-s.rem≠0;omega)
 have c:(IS.step { s with x:=rb B (8*(j+s.rem)),left:=s.left-s.rem,all:=s.all++(B.drop j).take s.rem,rem:=s.rem-s.rem }).2=6:=by
  rw[d];unfold IS.emit;simp
 rw[<-f.iv,IS.dn (by rw[c];decide)];refine⟨c, ?_⟩;rw[d];unfold IS.emit;simp
end
section
variable {s:IS} {y pad B:List Int}
theorem nE {x z:List Int} {n:Nat} (h:x.length=n):num (x++z) n=(bW x).toNat:=by
 rw[ji ω];unfold num;rw[List.take_of_length_le ω]
theorem Me {R:List Int} (hp:pad.length<8) (a:R.length%8=0):gO (pad++R)=R:=by
 unfold gO;rw[List.length_append,show(pad.length+R.length)%8=pad.length by omega,List.drop_left]
theorem gU {a R:List Int} {n:Nat} (h:a.length=n):(a++R).drop n=R:=by subst h;exact List.drop_left
theorem Pv (n:Nat) (h:n<=65535) (z:List Int):num (aX n 16++aX (65535-n) 16++z) 32=n+65536*(65535-n):=by
 rw[nE (by rw[List.length_append,af,af]),dX,af,cP,cP];have e:(2:Int) ^ 16=65536:=δ;rw[e];omega
theorem Cm (a:y.length%8=0) (b:bc y):bV (gK y)=y:=by
 have h:=R4 b;have:rest y=[]:=List.eq_nil_of_length_eq_zero (by rw[dZ];exact a);rw[this,List.append_nil]at h;exact h
theorem B6 (d:s.st=0) {h:Int} (e:h=0\/h=1) (b:s.x=[h,0,0]++(pad++(aX B.length 16++aX (65535-B.length) 16++(bV B++y)))) (hp:pad.length<8) (u:y.length%8=0) (o:bc y) (C:∀x∈B,0<=x/\x<256) (c:B.length<=65535) (w:B.length<=s.rem):
  IS.Steps s ({ s with last:=decide (h=1),kinds:=s.kinds++[0],left:=0,all:=s.all++B,rem:=s.rem-B.length,x:=y,st:=2 }:IS).over:=by
 have z:num s.x 3=h.toNat:=by
  rw[b,nE (x:=[h,0,0]) (n:=3) rfl];rcases e with rfl | rfl <;> rfl
 have ru:s.x.drop 3=pad++(aX B.length 16++aX (65535-B.length) 16++(bV B++y)):=by rw[b];rfl
 have A:(aX B.length 16++aX (65535-B.length) 16++(bV B++y)).length=32+(8*B.length+y.length):=by
  rw[List.length_append,List.length_append,List.length_append,af,af,bD]
 have t:s.step=({ s with last:=decide (h=1),kinds:=s.kinds++[0],x:=aX B.length 16++aX (65535-B.length) 16++(bV B++y),st:=1 },0):=by
  unfold IS.step;rw[if_pos d];unfold IS.block;rw[if_neg (by rw[b,List.length_append];simp),z,if_pos (by rcases e with rfl | rfl <;> rfl),ru,Me hp ω];rcases e with rfl | rfl <;> rfl
 have r:({ s with last:=decide (h=1),kinds:=s.kinds++[0],x:=aX B.length 16++aX (65535-B.length) 16++(bV B++y),st:=1 }:IS).step=({ s with last:=decide (h=1),kinds:=s.kinds++[0],x:=bV B++y,left:=B.length,st:=2 },0):=by
  unfold IS.step;rw[if_neg σ,if_pos rfl];unfold IS.size;simp only;rw[if_neg (by rw[A];omega),Pv _ c,if_pos ω,gU (by rw[List.length_append,af,af])];congr 2;omega
 have f:∀x∈B++gK y,0<=x/\x<256:=λx b=>by
  rcases List.mem_append.1 b with i | i
  · exact C x i
  · exact EZ o x i
 have a:bV (B++gK y)=bV B++y:=by rw[oM,Cm u o]
 have p:=lY (s:={ s with last:=decide (h=1),kinds:=s.kinds++[0],x:=bV B++y,left:=B.length,st:=2 }) (B:=B++gK y) (j:=0) f rfl (by show bV B++y=(bV (B++gK y)).drop 0;rw[a];rfl) B.length (Nat.le_refl _) (by rw[List.length_append];omega) w
 have v:rb (B++gK y) (8*(0+B.length))=y:=by
  unfold rb;rw[a,Nat.zero_add];exact gU (by rw[bD])
 rw[v,List.drop_zero,List.take_left]at p
 have q:({ s with last:=decide (h=1),kinds:=s.kinds++[0],left:=0,all:=s.all++B,rem:=s.rem-B.length,x:=y,st:=2 }:IS).step=(({ s with last:=decide (h=1),kinds:=s.kinds++[0],left:=0,all:=s.all++B,rem:=s.rem-B.length,x:=y,st:=2 }:IS).over,0):=by
  unfold IS.step;rw[if_neg σ,if_neg σ,if_pos rfl];unfold IS.stored;rw[if_pos rfl]
 have m:=IS.Steps.one (s:=s) (by rw[t]);rw[t]at m;have l:=m.tail (by rw[r]);rw[r]at l
 have g:IS.Steps { s with last:=decide (h=1),kinds:=s.kinds++[0],x:=bV B++y,left:=B.length,st:=2 } { s with last:=decide (h=1),kinds:=s.kinds++[0],left:=0,all:=s.all++B,rem:=s.rem-B.length,x:=y,st:=2 }:=by
  have:=p;simp only [Nat.sub_self]at this;exact this
 have k:=(l.trans g).tail (by rw[q]);rw[q]at k;exact k
def hiB (v:Int) (n:Nat):List Int:=(aX v n).reverse
theorem bc.hi (v:Int) (n:Nat):bc (hiB v n):=λx a=>bc.aX _ _ x (List.mem_reverse.1 a)
end
def qH (lit ak:List Int) (t:aF):Prop:=if t.len=0 then 1<=ix lit t.lit.toNat else 1<=ix lit (257+ej t.len)/\1<=ix ak (bO t.ak)
structure wH (t:IS) (lit ak:List Int) (last:Bool) (x all:List Int) (rem:Nat) (kinds stops:List Int) (a8:List aF):Prop where
 st:t.st=6
 lt:t.lt=lit
 ds:t.ds=ak
 last:t.last=last
 x:t.x=x
 all:t.all=all
 rem:t.rem=rem
 kinds:t.kinds=kinds
 stops:t.stops=stops
 a8:t.a8=a8
theorem B9 {l:List Int} {s:Nat} (h:1<=ix l s):s<l.length:=by
 rcases Nat.lt_or_ge s l.length with a | a
 · exact a
 · have:ix l s=0:=by unfold ix;rw[List.getD_eq_getElem?_getD,List.getElem?_eq_none a];rfl
   omega
theorem oa {l:List Int} (c:ai l 15=0) {s:Nat} (h:1<=ix l s) (z:List Int):ae l (aM l s++z)=((s:Int),(ix l s).toNat,0)/\(aM l s++z).drop (ix l s).toNat=z:=by
 obtain⟨c1,c2,d⟩ :=gu c;have b:=B9 h;have e:=c2 s b;have a:=cI l s;refine⟨DZ (N:=(ix l s).toNat) _ ω ω ω b d ?_ ?_, ?_⟩
 · rw[<-a];exact List.take_left
 · rw[List.length_append,a];omega
 · rw[<-a];exact List.drop_left
section
variable {t:IS} {lit ak:List Int} {last:Bool} {x y all:List Int} {rem:Nat} {kinds stops:List Int} {a8:List aF}
theorem IS.PB (h:t.st=6):t.step=t.token:=by
 unfold IS.step;rw[if_neg ω,if_neg ω,if_neg ω,if_neg ω,if_neg ω,if_neg ω,if_pos h]
theorem IS.a2P (h:t.st=7):t.step=t.ak:=by
 unfold IS.step;rw[if_neg ω,if_neg ω,if_neg ω,if_neg ω,if_neg ω,if_neg ω,if_neg ω,if_pos h]
theorem L4 {k:aF} {o:List Int} (h:wH t lit ak last (nN lit ak k++y) all rem kinds stops a8) (Z:ai lit 15=0) (kV:ai ak 15=0) (hl:lit.length<=288) (g:aH k) (X:0<=k.lit/\k.lit<256) (W:qH lit ak k) (a:step all k=(0,o)) (u:o.length<=all.length+rem):
  ∃T,IS.Steps t T/\wH T lit ak last y o (rem-(o.length-all.length)) kinds stops (a8++[k]):=by
 obtain⟨Q,N,D⟩ :=k;obtain⟨e,rfl⟩ :∃e:Nat,Q=(e:Int):= ⟨Q.toNat,by have d:0<=Q:=X.1;omega⟩;have lG:e<256:=by have d:(e:Int)<256:=X.2;omega
 unfold step at a;rw[if_neg (by simpa using g)]at a;by_cases n:N=0
 · subst n;have hD:D=0:=by unfold aH at g;rw[if_pos rfl]at g;exact g
   subst hD
   split at a
   · simp at a
   · rename_i eK
     have L:all++[(e:Int)]=o:=by simpa using a
     subst L;have i:t.x=aM lit e++y:=by rw[h.x];rfl
     have H:1<=ix lit e:=by have d:=W;unfold qH at d;rw[if_pos rfl]at d;exact d
     obtain⟨F,E⟩ :=oa Z H y
     have m:t.step=({ t with x:=y,a8:=t.a8++[aF.mk (e:Int) 0 0],all:=t.all++[(e:Int)].take t.rem,rem:=t.rem-1 },if t.rem<1 then 6 else 0):=by
      rw[IS.PB h.st];unfold IS.token;rw[h.lt,i,F];simp only;rw[if_neg δ,if_pos ω,E];rfl
     have I:1<=t.rem:=by rw[h.rem];rw[List.length_append,List.length_singleton]at u;omega
     rw[if_neg ω]at m;have d:=IS.Steps.one (s:=t) (by rw[m]);rw[m]at d;refine⟨_,d, ⟨h.st,h.lt,h.ds,h.last,rfl, ?_, ?_,h.kinds,h.stops, ?_⟩⟩
     · show t.all++[(e:Int)].take t.rem=_
       rw[h.all,List.take_of_length_le (by simpa using I)]
     · show t.rem-1=_
       rw[h.rem,List.length_append,List.length_singleton];omega
     · show t.a8++_=_
       rw[h.a8]
 · obtain⟨⟨w,f⟩, ⟨d1,d2⟩,LD,LI⟩ :=nO g n;replace w:3<=N:=w;replace f:N<=258:=f;replace d1:1<=D:=d1;replace d2:D<=32768:=d2;have G:(e:Int)=0:=by unfold aH at g;rw[if_neg n]at g;exact g.1
   rw[G]at a h⊢
   split at a
   · simp at a
   · rename_i eK
     try rw[if_neg n]at a
     split at a
     · simp at a
     · rename_i Y
       have L:all++again all D.toNat N.toNat=o:=by simpa using a
       subst L;have Y:¬(all.length:Int)<D:=Y;have C:=(iB w).UM f;have B:=(iB w).2.1;have A:=(fT d1).UL d2;have z:=(fT d1).2.1;have K:ej N<=28:=LD;have J:bO D<=29:=LI;obtain⟨r,p⟩ :1<=ix lit (257+ej N)/\1<=ix ak (bO D):=by have d:=W;unfold qH at d;rw[if_neg n]at d;exact d
       have i:t.x=aM lit (257+ej N)++(aX (N-((lB (ej N):Nat):Int)) (lE (ej N))++(aM ak (bO D)++(aX (D-((dB (bO D):Nat):Int)) (dE (bO D))++y))):=by
        rw[h.x];unfold nN;rw[if_neg n];simp only [List.append_assoc]
       obtain⟨j,hj⟩ :=ν (ej N);obtain⟨q,hq⟩ :=ν (bO D);rw[hj]at C B K r i;rw[hq]at A z J p i;obtain⟨V,hV⟩ :∃V:Nat,N-((lB j:Nat):Int)=(V:Int):= ⟨(N-((lB j:Nat):Int)).toNat,ω⟩;obtain⟨U,hU⟩ :∃U:Nat,D-((dB q:Nat):Int)=(U:Int):= ⟨(D-((dB q:Nat):Int)).toNat,ω⟩;rw[hV]at C i;rw[hU]at A i;obtain⟨F,E⟩ :=oa Z r (aX (V:Int) (lE j)++(aM ak q++(aX (U:Int) (dE q)++y)))
       have nv:num (aX (V:Int) (lE j)++(aM ak q++(aX (U:Int) (dE q)++y))) (lE j)=V:=by
        rw[nE (af _ _),cP,Int.emod_eq_of_lt ω (by exact_mod_cast C)];rfl
       have m:t.step=({ t with x:=aM ak q++(aX (U:Int) (dE q)++y),len:=lB j+V,st:=7 },0):=by
        rw[IS.PB h.st];unfold IS.token;rw[h.lt,i,F];simp only;rw[if_neg δ,if_neg ω,if_neg ω,if_neg ω,E,show(((257+j:Nat):Int)-257).toNat=j by omega,if_neg (by rw[List.length_append,af];omega),nv,gU (af _ _)]
       obtain⟨b,l⟩ :∃b:IS,b={ t with x:=aM ak q++(aX (U:Int) (dE q)++y),len:=lB j+V,st:=7 }:= ⟨_,rfl⟩;rw[<-l]at m
       have a2:b.st=7/\b.lt=lit/\b.ds=ak/\b.last=last/\b.x=aM ak q++(aX (U:Int) (dE q)++y)/\b.len=lB j+V/\b.all=all/\b.rem=rem/\b.kinds=kinds/\b.stops=stops/\b.a8=a8:=by
        rw[l];exact⟨rfl,h.lt,h.ds,h.last,rfl,rfl,h.all,h.rem,h.kinds,h.stops,h.a8⟩
       clear l;obtain⟨b1,b2,M,b4,b5,b6,b7,b8,b9,P,O⟩ :=a2;obtain⟨m1,m2⟩ :=oa kV p (aX (U:Int) (dE q)++y)
       have nu:num (aX (U:Int) (dE q)++y) (dE q)=U:=by
        rw[nE (af _ _),cP,Int.emod_eq_of_lt ω (by exact_mod_cast A)];rfl
       have c:(again all (dB q+U) (lB j+V)).length=lB j+V:=aJ _ _ _;have xG:N.toNat=lB j+V:=ω;have v:D.toNat=dB q+U:=ω;rw[List.length_append,xG,v,c]at u
       have e3:b.step=({ b with x:=y,st:=6,a8:=b.a8++[aF.mk 0 N D],all:=all++again all (dB q+U) (lB j+V),rem:=rem-(lB j+V) },0):=by
        rw[IS.a2P b1];unfold IS.ak;rw[M,b5,m1];simp only;rw[if_neg δ,if_neg ω,m2,show((q:Int)).toNat=q by omega,if_neg (by rw[List.length_append,af];omega),nu,gU (af _ _)];unfold IS.text;rw[if_neg (by rw[b7];omega)];unfold IS.emit;simp only;rw[b7,b8,b6,c,if_neg ω,List.take_of_length_le (by rw[c];omega),show((lB j+V:Nat):Int)=N by omega,show((dB q+U:Nat):Int)=D by omega,M]
       have S:=IS.Steps.one (s:=t) (by rw[m]);rw[m]at S;have R:=S.tail (by rw[e3]);rw[e3]at R;rw[xG,v];refine⟨_,R, ⟨rfl,b2,M,b4,rfl,rfl, ?_,b9,P, ?_⟩⟩
       · show rem-(lB j+V)=_
         rw[List.length_append,c];omega
       · show b.a8++_=_
         rw[O]
theorem vP (i:ai lit 15=0) (j:ai ak 15=0) (g:lit.length<=288):∀(l:List aF) (t:IS) (all iU:List Int) (rem:Nat) (a8:List aF),wH t lit ak last (dS lit ak l++y) all rem kinds stops a8->(∀k∈l,aH k/\(0<=k.lit/\k.lit<256)/\qH lit ak k)->expand all l=(0,iU)->iU.length<=all.length+rem->
  ∃d,IS.Steps t d/\wH d lit ak last y iU (rem-(iU.length-all.length)) kinds stops (a8++l)
 | [],t,all,iU,rem,a8,h,_,he,_=>by
   have e:all=iU:=by simpa [expand] using he
   subst e;exact⟨t, .refl t,by rw[List.append_nil,Nat.sub_self,Nat.sub_zero];exact h⟩
 | k::l,t,all,iU,rem,a8,h,hk,he,hr=>by
   rw[eY]at he;obtain⟨u,s,r⟩ :=hk k List.mem_cons_self;by_cases a:(step all k).1=0
   · rw[if_pos a]at he;have B:=PD a;have b:step all k=(0,(step all k).2):=by rw[<-a]
     have w:(step all k).2.length<=iU.length:=by
      obtain⟨z,f⟩ :=nU (out:=(step all k).2) (l:=l) (by rw[he]);rw[he]at f;rw[show iU=(step all k).2++z from f,List.length_append];omega
     have A:wH t lit ak last (nN lit ak k++(dS lit ak l++y)) all rem kinds stops a8:=by
      have:dS lit ak (k::l)++y=nN lit ak k++(dS lit ak l++y):=by
       show(nN lit ak k++dS lit ak l)++y=_
       rw[List.append_assoc]
      rw[<-this];exact h
     obtain⟨n,p,x⟩ :=L4 A i j g u s r b ω;obtain⟨m,o,c⟩ :=vP i j g l n _ iU _ _ x (λq v=>hk q (List.mem_cons_of_mem _ v)) he ω;refine⟨m,p.trans o, ?_⟩;rw[List.append_assoc]at c;have e:rem-((step all k).2.length-all.length)-(iU.length-(step all k).2.length)=rem-(iU.length-all.length):=ω;rw[e]at c;exact c
   · rw[if_neg a]at he;rw[he]at a;exact absurd rfl a
theorem xo {l:List aF} {a:List Int} (h:wH t lit ak last (fp lit ak l++y) all rem kinds stops a8) (g:ai lit 15=0) (r:ai ak 15=0) (o:lit.length<=288) (s:1<=ix lit 256) (p:∀k∈l,aH k/\(0<=k.lit/\k.lit<256)/\qH lit ak k) (q:expand all l=(0,a)) (n:a.length<=all.length+rem):
  ∃d,IS.Steps t ({ d with x:=y }:IS).over/\wH d lit ak last (aM lit 256++y) a (rem-(a.length-all.length)) kinds stops (a8++l):=by
 have u:wH t lit ak last (dS lit ak l++(aM lit 256++y)) all rem kinds stops a8:=by
  have:fp lit ak l++y=dS lit ak l++(aM lit 256++y):=by unfold fp;rw[List.append_assoc]
  rw[<-this];exact h
 obtain⟨c,i,b⟩ :=vP g r o l t all a rem a8 u p q n;obtain⟨m,j⟩ :=oa g s y
 have e:c.step=(({ c with x:=y }:IS).over,0):=by
  rw[IS.PB b.st];unfold IS.token;rw[b.lt,b.x,m];simp only;rw[if_neg δ,if_neg δ,if_pos δ,j]
 have f:=i.tail (by rw[e]);rw[e]at f;exact⟨c,f,b⟩
end
end Go.Proofs.YtddhegejmkgmjaaGreat
