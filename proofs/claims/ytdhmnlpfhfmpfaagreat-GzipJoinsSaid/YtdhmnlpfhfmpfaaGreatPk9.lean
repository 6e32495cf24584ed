/-
  part
-/
import Derived.Test.YtdhmnlpfhfmpfaaGreatPk4
import Derived.Test.YtdhmnlpfhfmpfaaGreatPk6
import Derived.Test.YtdhmnlpfhfmpfaaGreatPk7
set_option linter.unusedVariables false
set_option maxRecDepth 100000
set_option maxHeartbeats 4000000
namespace Go.Proofs.YtdhmnlpfhfmpfaaGreat
open Go Go.RowKit
theorem QY (x:List Int) {n:Nat} (h:n<x.length):x.take (n+1)=x.take n++[ix x n]:=by
 rw[aY h];congr 2;simp [ix,h]
theorem Vf (x:List Int) {n:Nat} (h:n<=x.length):hv x n=fH (x.take n).reverse:=by
 induction n with
 | zero=>rfl
 | succ n a=>
   rw[QY x ω,List.reverse_append,hv,a ω];show _=ix x n+2*fH (x.take n).reverse;omega
theorem dJ.rev {l:List Int} (h:dJ l):dJ l.reverse:=λx a=>h x (List.mem_reverse.1 a)
theorem BO (l:List Int) (s:Nat):cN l s=(dv (fo l s) (ix l s).toNat).reverse:=by
 have h:=vT (dJ.rev (dJ.dv (fo l s) (ix l s).toNat));rw[gN,aP]at h;exact h
theorem fU (l:List Int) (s:Nat):(cN l s).length=(ix l s).toNat:=by unfold cN;rw[aP]
theorem dJ.sym (l:List Int) (s:Nat):dJ (cN l s):=dJ.dv _ _
theorem kX {l:List Int} {most:Int} (h:bb l most=0):l.length<=288/\(∀i,i<l.length->0<=ix l i/\ix l i<=15)/\sumTo l l.length<=32768:=by
 unfold bb at h;split at h
 · simp at h
 split at h
 · simp at h
 split at h
 · simp at h
 rename_i c a b
 refine⟨ω, ?_,ω⟩;have:yM l most l.length=true:=by simpa using a
 have h4:∀i,i<l.length->0<=ix l i/\ix l i<=most:=by simpa [yM] using this
 exact λi hi=> ⟨(h4 i hi).1,by have:=(h4 i hi).2;omega⟩
theorem a0E {l:List Int} {m:Nat} (b:1<=m) (a:m<=15):(nI l m+cnt l l.length m)*qK m=Gw l l.length m:=by
 obtain⟨u,rfl⟩ :∃u,m=u+1:= ⟨m-1,ω⟩;rw[dD,NZ l (u+1) b a];rfl
theorem MB {l:List Int} {s N m:Nat} (x:List Int) (e:ix l s=N) (g:1<=N) (f:N<=15) (b:s<l.length) (d:sumTo l l.length<=32768) (a:x.take N=cN l s) (c:m<=N) (h:N<=x.length):hv x m=((fo l s/2 ^ (N-m):Nat):Int):=by
 have hf:=P5 g f e b d;rw[Vf x ω];have:x.take m=(cN l s).take m:=by rw[<-a,ft,bw c]
 rw[this,BO,e,aU,List.reverse_take,List.reverse_reverse,gN,aP,tD (dJ.dv _ _),gH];rw[bn ω (by rw[<-kW];omega)];rw[Int.natCast_ediv,kW]
theorem Jz {l:List Int} {s N:Nat} (x:List Int) (e:ix l s=N) (j:1<=N) (f:N<=15) (g:s<l.length) (p:sumTo l l.length<=32768) (k:x.take N=cN l s) (o:N<=x.length):aI l x=((s:Int),N,0):=by
 have r:=qp j f e;have v:=qo g e
 have n:∀m,m<N->fh l x m=0:=by
  intro m;induction m with
  | zero=>intro _;rfl
  | succ m t=>
    intro q;rw[kd (t ω),aa];unfold xg;rw[MB x e j f g p k (cZ q) o];have a:=a0E (l:=l) (show 1<=m+1 by omega) ω
    have b:Gw l l.length (m+1)<=placeOf l s:=by
     rw[Bj j f e];have:=JF l l.length (show m+1<=N-1 by omega);omega
    unfold placeOf at b;rw[e,aU,<-a,O7 (cZ q) f,<-fL]at b;have c:=Nat.le_of_mul_le_mul_right b (xB N).1;have d:=(Nat.le_div_iff_mul_le (ez (N-(m+1)))).2 c;simp only [decide_eq_true_eq];omega
 have i:fh l x N=N:=by
  obtain⟨u,rfl⟩ :∃u,N=u+1:= ⟨N-1,ω⟩;rw[kd (n u ω),ae];unfold xg;rw[MB x e j f g p k (ag _) o,dR,Nat.pow_zero,Nat.div_one,r];simp only [decide_eq_true_eq];omega
 have w:N<=tB l 15:=by
  rcases aZ (tB l 15) N with h | h
  · have:=DA l h f;omega
  exact h
 have hF:fh l x (min x.length (tB l 15))=N:=by rw[tz (m:=N) (by rw[i];omega) ω,i]
 rw[pT];unfold IU;rw[hF,ae ω,MB x e j f g p k (ag _) o,dR,Nat.pow_zero,Nat.div_one,r];have:(((nI l N+cnt l s N:Nat):Int)-(nI l N:Int)).toNat=cnt l s N:=ω;rw[this];unfold CM;rw[Fm l g e]
theorem VD {l x:List Int} (g:dJ x) (h:(aI l x).2.2=0):∃s N:Nat,aI l x=((s:Int),N,0)/\s<l.length/\ix l s=N/\1<=N/\N<=15/\N<=x.length/\x.take N=cN l s:=by
 have hp:=jh h;rw[pT]at h hp⊢;obtain⟨F,hF⟩ :=ν (fh l x (min x.length (tB l 15)));unfold IU at h hp⊢;rw[hF]at h hp⊢;by_cases hf:F=0
 · rw[aa ω]at h;split at h
   · simp at h
   split at h <;> simp at h
 rw[ae hf]at hp⊢;simp only at hp
 have hit:xg l x F=true/\∀m,m<F->fh l x m=0:=by
  have d:∀M,fh l x M=F->xg l x F=true/\∀m,m<F->fh l x m=0:=by
   intro M;induction M with
   | zero=>intro b;exact absurd b.symm hf
   | succ M o=>
     intro b;by_cases e:fh l x M=0
     · rw[kd e]at b;split at b
       · rename_i t
         subst b;exact⟨t,λm r=>KU e m ω⟩
       omega
     exact o ((tz e (fu M)).symm.trans b)
  exact d _ hF
 obtain⟨p,rfl⟩ :∃p,F=p+1:= ⟨F-1,ω⟩;have w:=Ve g (n:=p) (λm r=>hit.2 m ω);have c:=hit.1;unfold xg at c;simp only [decide_eq_true_eq]at c;obtain⟨J,y⟩ :=aG (show 0<=hv x (p+1)-(nI l (p+1):Int) by omega);obtain⟨s,f,a,hs3,q⟩ :=Dv l (n:=p+1) (j:=J) (k:=l.length) ω;refine⟨s,p+1, ?_,f,a,ω,hp.2.2,hp.2.1, ?_⟩
 · have:(hv x (p+1)-(nI l (p+1):Int)).toNat=J:=ω;rw[this];unfold CM;rw[q]
 have u:=qp (show 1<=p+1 by omega) hp.2.2 a;rw[BO,a,aU,u,hs3];have v:((nI l (p+1)+J:Nat):Int)=fH (x.take (p+1)).reverse:=by rw[<-Vf x hp.2.1];omega
 have i:=vT (dJ.rev (g.tY (p+1)));rw[gN,aA,bw hp.2.1]at i;rw[v,i,List.reverse_reverse]
def Dy (B:Nat->Nat) (n:Int):Nat->Nat
 | 0=>0
 | t+1=>if((B (t+1):Nat):Int)<=n then t+1 else Dy B n t
theorem uB {B:Nat->Nat} {n:Int} (d:((B 0:Nat):Int)<=n):∀a,rS B a n (Dy B n a)
 | 0=> ⟨ag _,d,λi c b=>by simp [Dy]at c;omega⟩
 | t+1=>by
   unfold Dy;by_cases h:((B (t+1):Nat):Int)<=n
   · rw[ae h];exact⟨ag _,h,λi c b=>ω⟩
   rw[aa h];obtain⟨c,b,f⟩ :=uB d t;refine⟨ω,b,λi h4 h5=> ?_⟩;by_cases e:i=t+1
   · subst e;omega
   exact f i h4 ω
def jg (n:Int):Nat:=Dy lB n 28
def fk (n:Int):Nat:=Dy dB n 29
theorem mE {n:Int} (h:3<=n):rS lB 28 n (jg n):=uB (by show((3:Nat):Int)<=n;omega) 28
theorem kM {n:Int} (h:1<=n):rS dB 29 n (fk n):=uB (by show((1:Nat):Int)<=n;omega) 29
theorem zK {n:Int} {v:Value} (h:kJ lB lE 3 258 257 28 n v) (b:3<=n/\n<=258):v= .tuple #[.int .i64 (257+((jg n:Nat):Int)), .int .i64 ((lE (jg n):Nat):Int), .int .i64 (n-((lB (jg n):Nat):Int))]:=by
 rcases h with ⟨h,_⟩ | ⟨_,j,a,h⟩
 · omega
 rw[h,a.uniq (mE b.1)]
theorem wS {n:Int} {v:Value} (h:kJ dB dE 1 32768 0 29 n v) (b:1<=n/\n<=32768):v= .tuple #[.int .i64 ((fk n:Nat):Int), .int .i64 ((dE (fk n):Nat):Int), .int .i64 (n-((dB (fk n):Nat):Int))]:=by
 rcases h with ⟨h,_⟩ | ⟨_,j,a,h⟩
 · omega
 rw[h,a.uniq (kM b.1),Int.zero_add]
def sT (lit bk:List Int) (t:cu):List Int:=
 if t.len=0 then cN lit t.lit.toNat
 else cN lit (257+jg t.len)++dv (t.len-((lB (jg t.len):Nat):Int)) (lE (jg t.len))++cN bk (fk t.bk)++dv (t.bk-((dB (fk t.bk):Nat):Int)) (dE (fk t.bk))
def iQ (lit bk:List Int) (l:List cu):List Int:=l.flatMap (sT lit bk)
def jY (lit bk:List Int) (l:List cu):List Int:=iQ lit bk l++cN lit 256
theorem Ef (lit bk:List Int) (a b:List cu):iQ lit bk (a++b)=iQ lit bk a++iQ lit bk b:=by simp [iQ]
theorem Eg (lit bk:List Int) (t:cu):iQ lit bk [t]=sT lit bk t:=by simp [iQ]
theorem wB {l:List cu} {k:Nat} (h:k<l.length):l.take (k+1)=l.take k++[dT l k]:=by
 rw[aY h];simp [dT,h]
theorem py {l:List Int} (h:∀i,i<l.length->0<=ix l i/\ix l i<=15) (s:Nat):(cN l s).length<=15:=by
 rw[fU];by_cases e:s<l.length
 · have:=h s e;omega
 have:ix l s=0:=by unfold ix;rw[aq,br ω];rfl
 rw[this];exact aF _
theorem sU {t:cu} (h:cC t) (a:t.len≠0):(3<=t.len/\t.len<=258)/\(1<=t.bk/\t.bk<=32768)/\jg t.len<=28/\fk t.bk<=29:=by
 unfold cC at h;rw[aa a]at h;exact⟨⟨h.2.1,h.2.2.1⟩, ⟨h.2.2.2.1,h.2.2.2.2⟩,(mE h.2.1).1,(kM h.2.2.2.1).1⟩
theorem a4m {lit bk:List Int} (b:∀i,i<lit.length->0<=ix lit i/\ix lit i<=15) (hd:∀i,i<bk.length->0<=ix bk i/\ix bk i<=15) {t:cu} (h:cC t):(sT lit bk t).length<=48:=by
 unfold sT;by_cases a:t.len=0
 · rw[ae a];have:=py b t.lit.toNat;omega
 rw[aa a];obtain⟨_,_,d,h4⟩ :=sU h a;have h5:=(IB (jg t.len) ω).2.2;have h6:=(KH (fk t.bk) ω).2.2;have h7:=py b (257+jg t.len);have c:=py hd (fk t.bk);rw[af,af,af,aP,aP];omega
theorem zv {lit bk:List Int} (a:∀i,i<lit.length->0<=ix lit i/\ix lit i<=15) (hd:∀i,i<bk.length->0<=ix bk i/\ix bk i<=15):∀l:List cu,(∀t∈l,cC t)->(iQ lit bk l).length<=48*l.length
 | [],_=>by simp [iQ]
 | t::l,h=>by
   have d:=a4m a hd (h t az);have c:=zv a hd l λu b=>h u (aB _ b);show(sT lit bk t++iQ lit bk l).length<=_;rw[af,bc];omega
section
variable {s t:IS} {x y b:List Int} {n m:Nat}
theorem IS.IZ (s:IS) (h:y.length%8=0):(s.app y).over=s.over.app y:=by
 unfold IS.over;have a:(s.app y).last=s.last:=rfl;rw[a];split
 · show IS.mk (lD (s.x++y)) _ _ _ _ _ _ _ _ _ _ _ _ _ _ _ _=_;rw[GP h];rfl
 rfl
theorem IS.eM (a:s.step.2≠5) (p:y.length%8=0):(s.app y).step=(s.step.1.app y,s.step.2):=by
 have b:∀x:List Int,(x++y).length=x.length+y.length:=λx=>af;have q:(s.app y).st=s.st:=rfl;have f:(s.app y).x=s.x++y:=rfl;unfold IS.step at a⊢;rw[q];by_cases v:s.st=0
 · simp only [if_pos v]at a⊢;unfold IS.block at a⊢;by_cases c:s.x.length<3
   · rw[ae c]at a;simp at a
   rw[aa c,aa (by rw[f,b];omega),f,nP ω,il ω,GP p];split
   · rfl
   split
   · rfl
   split
   · rfl
   rfl
 simp only [if_neg v]at a⊢;by_cases u:s.st=1
 · simp only [if_pos u]at a⊢;unfold IS.size at a⊢;by_cases c:s.x.length<32
   · rw[ae c]at a;simp at a
   rw[aa c,aa (by rw[f,b];omega),f,nP ω,il ω];split
   · rfl
   rfl
 simp only [if_neg u]at a⊢;by_cases t:s.st=2
 · simp only [if_pos t]at a⊢;unfold IS.stored at a⊢;have j:(s.app y).left=s.left:=rfl;rw[j];by_cases h:s.left=0
   · rw[ae h,ae h,IS.IZ s p]
   rw[aa h]at a;rw[aa h,aa h];by_cases c:s.x.length<8
   · rw[ae c]at a;simp at a
   rw[aa c,aa (by rw[f,b];omega),f,nP ω,il ω];rfl
 simp only [if_neg t]at a⊢;by_cases r:s.st=3
 · simp only [if_pos r]at a⊢;unfold IS.sizes at a⊢;by_cases c:s.x.length<14
   · rw[ae c]at a;simp at a
   rw[aa c,aa (by rw[f,b];omega),f,nP ω,il ω];split
   · rfl
   rfl
 simp only [if_neg r]at a⊢;by_cases h4:s.st=4
 · simp only [if_pos h4]at a⊢;unfold IS.heads at a⊢;have j:(s.app y).lens=s.lens:=rfl;have g:(s.app y).c2=s.c2:=rfl;rw[j,g];by_cases g:s.lens.length<s.c2
   · rw[ae g]at a;rw[ae g,ae g];by_cases c:s.x.length<3
     · rw[ae c]at a;simp at a
     rw[aa c,aa (by rw[f,b];omega),f,nP ω,il ω];rfl
   rw[aa g,aa g];split
   · rfl
   rfl
 simp only [if_neg h4]at a⊢;by_cases h5:s.st=5
 · simp only [if_pos h5]at a⊢;unfold IS.lengths at a⊢;have j:(s.app y).lens=s.lens:=rfl;have n:(s.app y).c0=s.c0:=rfl;have m:(s.app y).c1=s.c1:=rfl;have l:(s.app y).hd=s.hd:=rfl;rw[j,n,m];by_cases g:s.lens.length<s.c0+s.c1
   · rw[ae g]at a;rw[ae g,ae g];unfold IS.length at a⊢;rw[l,f,j]
     have k:(aI s.hd s.x).2.2≠5:=by
      intro e;rw[ae (by rw[e];simp)]at a;exact a e
     rw[uF _ _ _ k];by_cases e:(aI s.hd s.x).2.2≠0
     · rw[ae e,ae e]
     have hp:=jh (bO.1 e);rw[aa e]at a;rw[aa e,aa e,il ω];by_cases h6:(aI s.hd s.x).1<16
     · rw[ae h6,ae h6];rfl
     rw[aa h6]at a;rw[aa h6,aa h6];by_cases h7:(aI s.hd s.x).1=16/\s.lens.length=0
     · rw[ae h7,ae h7]
     rw[aa h7]at a;rw[aa h7,aa h7];by_cases d:(s.x.drop (aI s.hd s.x).2.1).length<IS.rW (aI s.hd s.x).1
     · rw[ae d]at a;simp at a
     rw[aa d,aa (by rw[b];omega)];unfold IS.ku;rw[nP ω,il ω,j,n,m];split
     · rfl
     rfl
   rw[aa g,aa g];split
   · rfl
   rfl
 simp only [if_neg h5]at a⊢;by_cases h6:s.st=6
 · simp only [if_pos h6]at a⊢;unfold IS.token at a⊢;have l:(s.app y).lt=s.lt:=rfl;rw[l,f]
   have k:(aI s.lt s.x).2.2≠5:=by
    intro e;rw[ae (by rw[e];simp)]at a;exact a e
   rw[uF _ _ _ k];by_cases e:(aI s.lt s.x).2.2≠0
   · rw[ae e,ae e]
   have hp:=jh (bO.1 e);rw[aa e]at a;rw[aa e,aa e,il ω];by_cases h7:(aI s.lt s.x).1<256
   · rw[ae h7,ae h7];rfl
   rw[aa h7]at a;rw[aa h7,aa h7];by_cases d:(aI s.lt s.x).1=256
   · rw[ae d,ae d];have:=IS.IZ { s with x:=s.x.drop (aI s.lt s.x).2.1 } p;show(IS.over _,_)=_;rw[<-this];rfl
   rw[aa d]at a;rw[aa d,aa d];by_cases o:285<(aI s.lt s.x).1
   · rw[ae o,ae o]
   rw[aa o]at a;rw[aa o,aa o];by_cases i:(s.x.drop (aI s.lt s.x).2.1).length<lE ((aI s.lt s.x).1-257).toNat
   · rw[ae i]at a;simp at a
   rw[aa i,aa (by rw[b];omega),nP ω,il ω];rfl
 simp only [if_neg h6]at a⊢;by_cases h7:s.st=7
 rotate_left
 · simp only [if_neg h7]
 simp only [if_pos h7]at a⊢;unfold IS.bk at a⊢;have l:(s.app y).ds=s.ds:=rfl;rw[l,f]
 have k:(aI s.ds s.x).2.2≠5:=by
  intro e;rw[ae (by rw[e];simp)]at a;exact a e
 rw[uF _ _ _ k];by_cases e:(aI s.ds s.x).2.2≠0
 · rw[ae e,ae e]
 have hp:=jh (bO.1 e);rw[aa e]at a;rw[aa e,aa e,il ω];by_cases d:29<(aI s.ds s.x).1
 · rw[ae d,ae d]
 rw[aa d]at a;rw[aa d,aa d];by_cases i:(s.x.drop (aI s.ds s.x).2.1).length<dE (aI s.ds s.x).1.toNat
 · rw[ae i]at a;simp at a
 rw[aa i,aa (by rw[b];omega),nP ω,il ω];unfold IS.text;have w:(s.app y).all=s.all:=rfl;rw[w];split
 · rfl
 rfl
theorem IS.Steps.app (h:IS.Steps s t) (a:y.length%8=0):IS.Steps (s.app y) (t.app y):=by
 induction h with
 | refl=>exact .refl _
 | @tail t h1 h2 ih=>
   have e:=IS.eM (s:=t) (y:=y) (by rw[h2];decide) a;have b:(t.app y).step.2=0:=by rw[e];exact h2
   have h4:=IS.Steps.tail ih b
   rwa [e]at h4
def IS.cap (s:IS) (m:Nat):IS:={ s with rem:=m }
theorem IS.iM (s:IS):s.emit []=(s,0):=by
 unfold IS.emit;rw[List.take_nil,ax,aa σ];rfl
theorem IS.Jr (s:IS):∃(t:IS) (b:List Int) (e:Int),t.all=s.all/\e≠6/\∀m,(s.cap m).step=if e=0 then(t.cap m).emit b else(t.cap m,e):=by
 unfold IS.step;by_cases z:s.st=0
 · have:∀m,(s.cap m).st=0:=λm=>z;simp only [this,if_true];unfold IS.block;by_cases a:s.x.length<3
   · exact⟨s,[],5,rfl,δ,λm=>ae a⟩
   have f:∀m,(s.cap m).x=s.x:=λm=>rfl;simp only [f,if_neg a];by_cases j:num s.x 3/2=0
   · exact⟨{ s with last:=decide (num s.x 3%2=1),kinds:=s.kinds++[((num s.x 3/2:Nat):Int)],x:=lD (s.x.drop 3),st:=1 },[],0,rfl,δ,λm=>by rw[ae j,ae rfl,IS.iM];rfl⟩
   by_cases g:num s.x 3/2=1
   · exact⟨{ s with last:=decide (num s.x 3%2=1),kinds:=s.kinds++[((num s.x 3/2:Nat):Int)],x:=s.x.drop 3,lt:=ig,ds:=iN,st:=6 },[],0,rfl,δ,λm=>by rw[aa j,ae g,ae rfl,IS.iM];rfl⟩
   by_cases p:num s.x 3/2=2
   · exact⟨{ s with last:=decide (num s.x 3%2=1),kinds:=s.kinds++[((num s.x 3/2:Nat):Int)],x:=s.x.drop 3,st:=3 },[],0,rfl,δ,λm=>by rw[aa j,aa g,ae p,ae rfl,IS.iM];rfl⟩
   exact⟨{ s with last:=decide (num s.x 3%2=1),kinds:=s.kinds++[((num s.x 3/2:Nat):Int)],x:=s.x.drop 3 },[],2,rfl,δ,λm=>by rw[aa j,aa g,aa p,aa δ];rfl⟩
 have J:∀m,¬(s.cap m).st=0:=λm=>z;simp only [if_neg (J _)];have f:∀m,(s.cap m).x=s.x:=λm=>rfl;by_cases j:s.st=1
 · have:∀m,(s.cap m).st=1:=λm=>j;simp only [this,if_true];unfold IS.size;simp only [f];by_cases a:s.x.length<32
   · exact⟨s,[],5,rfl,δ,λm=>ae a⟩
   simp only [if_neg a];by_cases g:num s.x 32%65536+num s.x 32/65536=65535
   · exact⟨{ s with x:=s.x.drop 32,left:=num s.x 32%65536,st:=2 },[],0,rfl,δ,λm=>by rw[ae g,ae rfl,IS.iM];rfl⟩
   exact⟨{ s with x:=s.x.drop 32 },[],2,rfl,δ,λm=>by rw[aa g,aa δ];rfl⟩
 have I:∀m,¬(s.cap m).st=1:=λm=>j;simp only [if_neg (I _)]
 have y:∀s:IS,∀m,(s.cap m).over=s.over.cap m:=λs m=>by
  unfold IS.over;have:(s.cap m).last=s.last:=rfl;rw[this];split <;> rfl
 have w:∀s:IS,s.over.all=s.all:=λs=>by unfold IS.over;split <;> rfl
 by_cases g:s.st=2
 · have:∀m,(s.cap m).st=2:=λm=>g;simp only [this,if_true];unfold IS.stored;have u:∀m,(s.cap m).left=s.left:=λm=>rfl;simp only [f,u];by_cases u:s.left=0
   · exact⟨s.over,[],0,w s,δ,λm=>by rw[ae u,ae rfl,IS.iM,y]⟩
   simp only [if_neg u];by_cases a:s.x.length<8
   · exact⟨s,[],5,rfl,δ,λm=>ae a⟩
   exact⟨{ s with x:=s.x.drop 8,left:=s.left-1 },[(num s.x 8:Int)],0,rfl,δ,λm=>by rw[aa a,ae rfl];rfl⟩
 have H:∀m,¬(s.cap m).st=2:=λm=>g;simp only [if_neg (H _)];by_cases p:s.st=3
 · have:∀m,(s.cap m).st=3:=λm=>p;simp only [this,if_true];unfold IS.sizes;simp only [f];by_cases a:s.x.length<14
   · exact⟨s,[],5,rfl,δ,λm=>ae a⟩
   simp only [if_neg a];by_cases h4:286<num s.x 14%32+257\/30<num s.x 14/32%32+1
   · exact⟨{ s with x:=s.x.drop 14 },[],2,rfl,δ,λm=>by rw[ae h4,aa δ];rfl⟩
   exact⟨{ s with x:=s.x.drop 14,c0:=num s.x 14%32+257,c1:=num s.x 14/32%32+1,c2:=num s.x 14/1024+4,lens:=[],st:=4 },[],0,rfl,δ,λm=>by rw[aa h4,ae rfl,IS.iM];rfl⟩
 have G:∀m,¬(s.cap m).st=3:=λm=>p;simp only [if_neg (G _)];have r:∀m,(s.cap m).lens=s.lens:=λm=>rfl;by_cases h4:s.st=4
 · have:∀m,(s.cap m).st=4:=λm=>h4;simp only [this,if_true];unfold IS.heads;have v:∀m,(s.cap m).c2=s.c2:=λm=>rfl;simp only [f,r,v];by_cases c:s.lens.length<s.c2
   · simp only [if_pos c];by_cases a:s.x.length<3
     · exact⟨s,[],5,rfl,δ,λm=>ae a⟩
     exact⟨{ s with x:=s.x.drop 3,lens:=s.lens++[(num s.x 3:Int)] },[],0,rfl,δ,λm=>by rw[aa a,ae rfl,IS.iM];rfl⟩
   simp only [if_neg c];by_cases h5:bb (iD s.lens) 7≠0\/gQ s.lens=true
   · exact⟨s,[],3,rfl,δ,λm=>ae h5⟩
   exact⟨{ s with hd:=iD s.lens,lens:=[],st:=5 },[],0,rfl,δ,λm=>by rw[aa h5,ae rfl,IS.iM];rfl⟩
 have F:∀m,¬(s.cap m).st=4:=λm=>h4;simp only [if_neg (F _)];by_cases h5:s.st=5
 · have:∀m,(s.cap m).st=5:=λm=>h5;simp only [this,if_true];unfold IS.lengths;have n:∀m,(s.cap m).c0=s.c0:=λm=>rfl;have l:∀m,(s.cap m).c1=s.c1:=λm=>rfl;have k:∀m,(s.cap m).hd=s.hd:=λm=>rfl;simp only [r,n,l];by_cases c:s.lens.length<s.c0+s.c1
   · simp only [if_pos c];unfold IS.length;simp only [k,f,r];by_cases e:(aI s.hd s.x).2.2≠0
     · refine⟨s,[],(aI s.hd s.x).2.2,rfl, ?_,λm=>by rw[ae e,aa e]⟩;rcases eV s.hd s.x with h | h | h <;> omega
     simp only [if_neg e];by_cases h6:(aI s.hd s.x).1<16
     · exact⟨{ s with x:=s.x.drop (aI s.hd s.x).2.1,lens:=s.lens++[(aI s.hd s.x).1] },[],0,rfl,δ,λm=>by rw[ae h6,ae rfl,IS.iM];rfl⟩
     simp only [if_neg h6];by_cases h7:(aI s.hd s.x).1=16/\s.lens.length=0
     · exact⟨s,[],2,rfl,δ,λm=>ae h7⟩
     simp only [if_neg h7];by_cases i:(s.x.drop (aI s.hd s.x).2.1).length<IS.rW (aI s.hd s.x).1
     · exact⟨s,[],5,rfl,δ,λm=>ae i⟩
     simp only [if_neg i];unfold IS.ku;simp only [r,n,l];by_cases o:s.c0+s.c1<s.lens.length+(IS.rB (aI s.hd s.x).1+num (s.x.drop (aI s.hd s.x).2.1) (IS.rW (aI s.hd s.x).1))
     · exact⟨{ s with x:=(s.x.drop (aI s.hd s.x).2.1).drop (IS.rW (aI s.hd s.x).1) },[],2,rfl,δ,λm=>by rw[ae o,aa δ];rfl⟩
     exact⟨{ s with x:=(s.x.drop (aI s.hd s.x).2.1).drop (IS.rW (aI s.hd s.x).1),lens:=s.lens++List.replicate (IS.rB (aI s.hd s.x).1+num (s.x.drop (aI s.hd s.x).2.1) (IS.rW (aI s.hd s.x).1)) (if(aI s.hd s.x).1=16 then ix s.lens (s.lens.length-1)else 0) },[],0,rfl,δ,λm=>by rw[aa o,ae rfl,IS.iM];rfl⟩
   simp only [if_neg c];by_cases h6:bb (s.lens.take s.c0) 15≠0\/bb (s.lens.drop s.c0) 15≠0\/ix s.lens 256=0
   · exact⟨s,[],3,rfl,δ,λm=>ae h6⟩
   exact⟨{ s with lt:=s.lens.take s.c0,ds:=s.lens.drop s.c0,st:=6 },[],0,rfl,δ,λm=>by rw[aa h6,ae rfl,IS.iM];rfl⟩
 have E:∀m,¬(s.cap m).st=5:=λm=>h5;simp only [if_neg (E _)];by_cases h6:s.st=6
 · have:∀m,(s.cap m).st=6:=λm=>h6;simp only [this,if_true];unfold IS.token;have k:∀m,(s.cap m).lt=s.lt:=λm=>rfl;simp only [k,f];by_cases e:(aI s.lt s.x).2.2≠0
   · refine⟨s,[],(aI s.lt s.x).2.2,rfl, ?_,λm=>by rw[ae e,aa e]⟩;rcases eV s.lt s.x with h | h | h <;> omega
   simp only [if_neg e];by_cases h7:(aI s.lt s.x).1<256
   · exact⟨{ s with x:=s.x.drop (aI s.lt s.x).2.1,aj:=s.aj++[cu.mk (aI s.lt s.x).1 0 0] },[(aI s.lt s.x).1],0,rfl,δ,λm=>by rw[ae h7,ae rfl];rfl⟩
   simp only [if_neg h7];by_cases i:(aI s.lt s.x).1=256
   · exact⟨({ s with x:=s.x.drop (aI s.lt s.x).2.1 }:IS).over,[],0,w _,δ,λm=>by rw[ae i,ae rfl,IS.iM,<-y];rfl⟩
   simp only [if_neg i];by_cases o:285<(aI s.lt s.x).1
   · exact⟨s,[],3,rfl,δ,λm=>ae o⟩
   simp only [if_neg o];by_cases d:(s.x.drop (aI s.lt s.x).2.1).length<lE ((aI s.lt s.x).1-257).toNat
   · exact⟨s,[],5,rfl,δ,λm=>ae d⟩
   exact⟨{ s with x:=(s.x.drop (aI s.lt s.x).2.1).drop (lE ((aI s.lt s.x).1-257).toNat),len:=lB ((aI s.lt s.x).1-257).toNat+num (s.x.drop (aI s.lt s.x).2.1) (lE ((aI s.lt s.x).1-257).toNat),st:=7 },[],0,rfl,δ,λm=>by rw[aa d,ae rfl,IS.iM];rfl⟩
 have C:∀m,¬(s.cap m).st=6:=λm=>h6;simp only [if_neg (C _)];by_cases h7:s.st=7
 rotate_left
 · have B:∀m,¬(s.cap m).st=7:=λm=>h7;simp only [if_neg (B _)];exact⟨s,[],8,rfl,δ,λm=>rfl⟩
 have:∀m,(s.cap m).st=7:=λm=>h7;simp only [this,if_true];unfold IS.bk;have k:∀m,(s.cap m).ds=s.ds:=λm=>rfl;simp only [k,f];by_cases e:(aI s.ds s.x).2.2≠0
 · refine⟨s,[],(aI s.ds s.x).2.2,rfl, ?_,λm=>by rw[ae e,aa e]⟩;rcases eV s.ds s.x with h | h | h <;> omega
 simp only [if_neg e];by_cases i:29<(aI s.ds s.x).1
 · exact⟨s,[],3,rfl,δ,λm=>ae i⟩
 simp only [if_neg i];by_cases d:(s.x.drop (aI s.ds s.x).2.1).length<dE (aI s.ds s.x).1.toNat
 · exact⟨s,[],5,rfl,δ,λm=>ae d⟩
 simp only [if_neg d];unfold IS.text;have A:∀m,(s.cap m).all=s.all:=λm=>rfl;simp only [A];generalize (s.x.drop (aI s.ds s.x).2.1).drop (dE (aI s.ds s.x).1.toNat)=x1;generalize dB (aI s.ds s.x).1.toNat+num (s.x.drop (aI s.ds s.x).2.1) (dE (aI s.ds s.x).1.toNat)=D;by_cases q:s.all.length<D
 · exact⟨s,[],3,rfl,δ,λm=>ae q⟩
 exact⟨{ s with x:=x1,st:=6,aj:=s.aj++[cu.mk 0 s.len D] },again s.all D s.len,0,rfl,δ,λm=>by rw[aa q,ae rfl];rfl⟩
theorem IS.BG (s:IS):∃b,s.step.1.all=s.all++b/\s.step.1.rem+b.length=s.rem:=by
 obtain⟨t,b,e,c,f,d⟩ :=IS.Jr s;have h4:=d s.rem;have h5:s.cap s.rem=s:=rfl;rw[h5]at h4;by_cases a:e=0
 · rw[ae a]at h4;rw[h4];refine⟨b.take s.rem, ?_, ?_⟩
   · show t.all++_=_;rw[c];rfl
   show s.rem-b.length+(b.take s.rem).length=s.rem;rw[aA];omega
 rw[aa a]at h4;rw[h4];exact⟨[],by rw[ax];exact c,rfl⟩
theorem IS.Steps.out (h:IS.Steps s t):∃b,t.all=s.all++b/\t.rem+b.length=s.rem:=by
 induction h with
 | refl=>exact⟨[],σ,rfl⟩
 | @tail t h1 h2 ih=>
   obtain⟨b,a,h4⟩ :=ih;obtain⟨c,h5,h6⟩ :=IS.BG t;exact⟨b++c,by rw[h5,a,ak],by rw[af];omega⟩
theorem IS.Nd (s:IS):∃b,s.fin.1.all=s.all++b/\s.fin.1.rem+b.length=s.rem:=by
 obtain⟨t,e,d⟩ :=IS.mz s;obtain⟨b,a,h4⟩ :=e.out;obtain⟨c,h5,h6⟩ :=IS.BG t;rw[<-d];exact⟨b++c,by rw[h5,a,ak],by rw[af];omega⟩
theorem IS.WA (h:s.step.2≠6) (f:s.step.1.all=s.all++b):
  (b.length<=m->(s.cap m).step=(s.step.1.cap (m-b.length),s.step.2))/\(m<b.length->(s.cap m).step.2=6/\(s.cap m).step.1.all=s.all++b.take m):=by
 obtain⟨t,a,e,j,q,k⟩ :=IS.Jr s;have h4:=k s.rem;have h5:s.cap s.rem=s:=rfl;rw[h5]at h4;rw[k m,h4];by_cases d:e=0
 rotate_left
 · rw[aa d]at h4;rw[aa d,aa d];rw[h4]at f
   have l:b=[]:=by
    have:t.all=s.all++b:=f;rw[j]at this;have h6:s.all.length=s.all.length+b.length:=by conv=>lhs;rw[this,af]
    exact List.length_eq_zero_iff.1 ω
   subst l;exact⟨λ_=>rfl,λc=>by simp at c⟩
 subst d;rw[ae rfl]at h4⊢;rw[h4]at h f
 have i:¬s.rem<a.length:=by
  intro g
  apply h
  show(if s.rem<a.length then(6:Int)else 0)=6;rw[ae g]
 have n:a=b:=by
  have:t.all++a.take s.rem=s.all++b:=f;rw[j,ay ω]at this;exact List.append_cancel_left this
 subst n;refine⟨λc=> ?_,λc=> ⟨?_, ?_⟩⟩
 · rw[ae rfl];unfold IS.emit;have p:(t.cap m).rem=m:=rfl;have o:(t.cap s.rem).rem=s.rem:=rfl;rw[p,o,aa ω,aa i,ay ω,ay ω];rfl
 · show(if m<a.length then(6:Int)else 0)=6;rw[ae c]
 show t.all++a.take m=_;rw[j]
theorem IS.Steps.cap (h:IS.Steps s t):∀b,t.all=s.all++b->∀m,(b.length<=m->IS.Steps (s.cap m) (t.cap (m-b.length)))/\(m<b.length->(s.cap m).fin.2=6/\(s.cap m).fin.1.all=s.all++b.take m):=by
 induction h with
 | refl=>
   intro b f m
   obtain rfl:b=[]:=by
    have h6:=aL List.length f;rw[af]at h6;exact List.length_eq_zero_iff.1 ω
   exact⟨λ_=> .refl _,λa=>by simp at a⟩
 | @tail t h1 h2 ih=>
   intro b f m;obtain⟨c,j,h4⟩ :=h1.out;obtain⟨d,h5,h6⟩ :=IS.BG t
   have i:b=c++d:=by
    rw[h5,j,ak]at f;exact(List.append_cancel_left f).symm
   subst i;rw[af];obtain⟨o,n⟩ :=ih c j m;by_cases l:c.length<=m
   · have s1:=o l;obtain⟨b1,b2⟩ :=IS.WA (s:=t) (b:=d) (m:=m-c.length) (by rw[h2];decide) h5;refine⟨λa=> ?_,λa=> ?_⟩
     · have e:=b1 ω;have:=IS.Steps.tail s1 (by rw[e];exact h2)
       rwa [e,show m-c.length-d.length=m-(c.length+d.length) by omega]at this
     obtain⟨g,k⟩ :=b2 ω;rw[<-s1.mr,IS.ir (by rw[g];decide)];refine⟨g, ?_⟩;rw[k,j,ak,gK,ay l]
   refine⟨λa=>ω,λa=> ?_⟩;obtain⟨g,k⟩ :=n ω;exact⟨g,by rw[k,bP ω]⟩
end
structure IS.Ok (s:IS):Prop where
 bit:dJ s.x
 even:s.st=1\/s.st=2\/s.st=8->s.x.length%8=0
 cc:s.st=4\/s.st=5->257<=s.c0/\s.c0<=286/\1<=s.c1/\s.c1<=30
 h4:s.st=4->s.c2<=19/\s.lens.length<=s.c2/\∀v∈s.lens,0<=v/\v<=7
 h5:s.st=5->s.lens.length<=s.c0+s.c1/\(∀v∈s.lens,0<=v/\v<=15)/\bb s.hd 7=0/\s.hd.length=19
 h6:s.st=6\/s.st=7->bb s.lt 15=0/\bb s.ds 15=0
 h7:s.st=7->3<=s.len/\s.len<=258
 left:s.left<=65535
 jU:∀v∈s.all,0<=v/\v<256
 st8:s.st<=8
section
variable {s t:IS} {x y b:List Int} {n m:Nat}
theorem IS.Ok.at0 (a:s.st=0\/s.st=3) (bit:dJ s.x) (left:s.left<=65535) (jU:∀v∈s.all,0<=v/\v<256):s.Ok:=
 ⟨bit,λh=>ω,λh=>ω,λh=>ω,λh=>ω,λh=>ω,λh=>ω,left,jU,ω⟩
theorem IS.Ok.at1 (a:s.st=1\/s.st=2\/s.st=8) (bit:dJ s.x) (left:s.left<=65535) (jU:∀v∈s.all,0<=v/\v<256) (even:s.x.length%8=0):s.Ok:=
 ⟨bit,λh=>even,λh=>ω,λh=>ω,λh=>ω,λh=>ω,λh=>ω,left,jU,ω⟩
theorem IS.Ok.at4 (a:s.st=4) (bit:dJ s.x) (left:s.left<=65535) (jU:∀v∈s.all,0<=v/\v<256) (cc:257<=s.c0/\s.c0<=286/\1<=s.c1/\s.c1<=30)
  (h4:s.c2<=19/\s.lens.length<=s.c2/\∀v∈s.lens,0<=v/\v<=7):s.Ok:=
 ⟨bit,λh=>ω,λh=>cc,λh=>h4,λh=>ω,λh=>ω,λh=>ω,left,jU,ω⟩
theorem IS.Ok.at5 (a:s.st=5) (bit:dJ s.x) (left:s.left<=65535) (jU:∀v∈s.all,0<=v/\v<256) (cc:257<=s.c0/\s.c0<=286/\1<=s.c1/\s.c1<=30)
  (h5:s.lens.length<=s.c0+s.c1/\(∀v∈s.lens,0<=v/\v<=15)/\bb s.hd 7=0/\s.hd.length=19):s.Ok:=
 ⟨bit,λh=>ω,λh=>cc,λh=>ω,λh=>h5,λh=>ω,λh=>ω,left,jU,ω⟩
theorem IS.Ok.at6 (a:s.st=6\/s.st=7) (bit:dJ s.x) (left:s.left<=65535) (jU:∀v∈s.all,0<=v/\v<256) (h6:bb s.lt 15=0/\bb s.ds 15=0)
  (h7:s.st=7->3<=s.len/\s.len<=258):s.Ok:=
 ⟨bit,λh=>ω,λh=>ω,λh=>ω,λh=>ω,λh=>h6,h7,left,jU,ω⟩
theorem gD {x:List Int} (h:dJ x) (n:Nat):num x n<2 ^ n:=by
 have c:=km (h.tY n);have b:=gq (show(x.take n).length<=n by simp;omega);have a:((2 ^ n:Nat):Int)=2 ^ n:=σ;unfold num;omega
theorem qJ {x:List Int} (h:dJ x) (n:Nat):((num x n:Nat):Int)=fH (x.take n):=by
 have a:=km (h.tY n);unfold num;omega
theorem dJ.lD {x:List Int} (h:dJ x):dJ (lD x):=h.dX _
theorem mS (l:List Int):(iD l).length=19:=by simp [iD]
theorem mA:bb ig 15=0/\bb iN 15=0:=by decide+kernel
theorem Vo {j v:Nat} (a:j<29) (hv:v<2 ^ lE j):3<=lB j+v/\lB j+v<=258:=by
 have:∀j,j<29->3<=lB j/\lB j+2 ^ lE j<=259:=by decide+kernel
 have:=this j a;omega
theorem T7 {j v:Nat} (a:j<30) (hv:v<2 ^ dE j):1<=dB j+v/\dB j+v<=32768:=by
 have:∀j,j<30->1<=dB j/\dB j+2 ^ dE j<=32769:=by decide+kernel
 have:=this j a;omega
theorem IS.Ok.over (h:s.Ok):s.over.Ok:=by
 unfold IS.over;split
 · exact .at1 (.inr (.inr rfl)) h.bit.lD h.left h.jU (by show(lD s.x).length%8=0;rw[mP];omega)
 exact .at0 (.inl rfl) h.bit h.left h.jU
theorem IS.Ok.emit (h:s.Ok) {b:List Int} (c:∀v∈b,0<=v/\v<256):(s.emit b).1.Ok:=
 ⟨h.bit,h.even,h.cc,h.h4,h.h5,h.h6,h.h7,h.left,λv hv=>by
   rcases aN.1 hv with a | a
   · exact h.jU v a
   exact c v (aH a),h.st8⟩
theorem lT {l x:List Int} (a:dJ x) (h:¬(aI l x).2.2≠0):∃k n:Nat,aI l x=((k:Int),n,0)/\k<l.length/\1<=n/\n<=15/\n<=x.length:=by
 obtain⟨k,n,c,b,d,h4,h5,h6,h7⟩ :=VD a (bO.1 h);exact⟨k,n,c,b,h4,h5,h6⟩
theorem Sy {l:List Int} (h:∀v∈l,0<=v/\v<256) (D N:Nat):∀v∈again l D N,0<=v/\v<256:=by
 intro v hv;unfold again at hv;obtain⟨i,_,rfl⟩ :=gF.1 hv;exact NR h _
theorem IS.Ok.step (h:s.Ok) (e:s.step.2=0\/s.step.2=6):s.step.1.Ok:=by
 unfold IS.step at e⊢;by_cases B:s.st=0
 · rw[ae B]at e⊢;unfold IS.block at e⊢;by_cases c:s.x.length<3
   · rw[ae c]at e;simp at e
   rw[aa c]at e⊢;by_cases a:num s.x 3/2=0
   · rw[ae a];exact .at1 (.inl rfl) (h.bit.dX 3).lD h.left h.jU (by show(lD (s.x.drop 3)).length%8=0;rw[mP];omega)
   rw[aa a]at e⊢;by_cases g:num s.x 3/2=1
   · rw[ae g];exact .at6 (.inl rfl) (h.bit.dX 3) h.left h.jU mA (λe=>by simp at e)
   rw[aa g]at e⊢;by_cases r:num s.x 3/2=2
   · rw[ae r];exact .at0 (.inr rfl) (h.bit.dX 3) h.left h.jU
   rw[aa r]at e;simp at e
 rw[aa B]at e⊢;by_cases a:s.st=1
 · rw[ae a]at e⊢;unfold IS.size at e⊢;by_cases c:s.x.length<32
   · rw[ae c]at e;simp at e
   rw[aa c]at e⊢;by_cases g:num s.x 32%65536+num s.x 32/65536=65535
   · rw[ae g];exact .at1 (.inr (.inl rfl)) (h.bit.dX 32) (by show num s.x 32%65536<=65535;omega) h.jU (by have:=h.even (.inl a);show(s.x.drop 32).length%8=0;rw[av];omega)
   rw[aa g]at e;simp at e
 rw[aa a]at e⊢;by_cases g:s.st=2
 · rw[ae g]at e⊢;unfold IS.stored at e⊢;by_cases z:s.left=0
   · rw[ae z];exact h.over
   rw[aa z]at e⊢;by_cases c:s.x.length<8
   · rw[ae c]at e;simp at e
   rw[aa c];refine IS.Ok.emit (s:={ s with x:=s.x.drop 8,left:=s.left-1 }) (.at1 (.inr (.inl g)) (h.bit.dX 8) (by have:=h.left;show s.left-1<=65535;omega) h.jU (by have:=h.even (.inr (.inl g));show(s.x.drop 8).length%8=0;rw[av];omega)) ?_;intro v hv;simp at hv;subst hv;have:=gD h.bit 8;omega
 rw[aa g]at e⊢;by_cases r:s.st=3
 · rw[ae r]at e⊢;unfold IS.sizes at e⊢;by_cases c:s.x.length<14
   · rw[ae c]at e;simp at e
   rw[aa c]at e⊢;by_cases h4:286<num s.x 14%32+257\/30<num s.x 14/32%32+1
   · rw[ae h4]at e;simp at e
   rw[aa h4];have F:=gD h.bit 14;refine .at4 rfl (h.bit.dX 14) h.left h.jU ?_ ?_
   · show 257<=num s.x 14%32+257/\num s.x 14%32+257<=286/\1<=num s.x 14/32%32+1/\num s.x 14/32%32+1<=30;omega
   refine⟨?_,aF _,λv hv=>by simp at hv⟩;show num s.x 14/1024+4<=19;omega
 rw[aa r]at e⊢;by_cases h4:s.st=4
 · rw[ae h4]at e⊢;unfold IS.heads at e⊢;obtain⟨q1,q2,q3⟩ :=h.h4 h4;have d:=h.cc (.inl h4);by_cases o:s.lens.length<s.c2
   · rw[ae o]at e⊢;by_cases c:s.x.length<3
     · rw[ae c]at e;simp at e
     rw[aa c];refine .at4 h4 (h.bit.dX 3) h.left h.jU d ⟨q1, ?_, ?_⟩
     · show(s.lens++[_]).length<=s.c2;simp;omega
     intro v hv;rcases aN.1 hv with a | a
     · exact q3 v a
     simp at a;subst a;have:=gD h.bit 3;omega
   rw[aa o]at e⊢;by_cases h5:bb (iD s.lens) 7≠0\/gQ s.lens=true
   · rw[ae h5]at e;simp at e
   rw[aa h5];exact .at5 rfl h.bit h.left h.jU d ⟨aF _,λv hv=>by simp at hv,bO.1 λh6=>h5 (.inl h6),mS _⟩
 rw[aa h4]at e⊢;by_cases h5:s.st=5
 · rw[ae h5]at e⊢;unfold IS.lengths at e⊢;obtain⟨q1,q2,q3,q4⟩ :=h.h5 h5;have d:=h.cc (.inr h5);by_cases o:s.lens.length<s.c0+s.c1
   · rw[ae o]at e⊢;unfold IS.length at e⊢;by_cases f:(aI s.hd s.x).2.2≠0
     · rw[ae f]at e;rcases eV s.hd s.x with h6 | h6 | h6 <;> omega
     rw[aa f]at e⊢;obtain⟨k,n,l,A,y,w,u⟩ :=lT h.bit f;rw[l]at e⊢;simp only at e⊢;by_cases h6:(k:Int)<16
     · rw[ae h6];refine .at5 h5 (h.bit.dX _) h.left h.jU d ⟨?_, ?_,q3,q4⟩
       · show(s.lens++[_]).length<=s.c0+s.c1;simp;omega
       intro v hv;rcases aN.1 hv with a | a
       · exact q2 v a
       simp at a;subst a;omega
     rw[aa h6]at e⊢;by_cases h7:(k:Int)=16/\s.lens.length=0
     · rw[ae h7]at e;simp at e
     rw[aa h7]at e⊢;by_cases i:(s.x.drop n).length<IS.rW k
     · rw[ae i]at e;simp at e
     rw[aa i]at e⊢;unfold IS.ku at e⊢;by_cases q:s.c0+s.c1<s.lens.length+(IS.rB k+num (s.x.drop n) (IS.rW k))
     · rw[ae q]at e;simp at e
     rw[aa q];refine .at5 h5 ((h.bit.dX _).dX _) h.left h.jU d ⟨?_, ?_,q3,q4⟩
     · show(s.lens++List.replicate _ _).length<=s.c0+s.c1;rw[af,aQ];omega
     intro v hv;rcases aN.1 hv with a | a
     · exact q2 v a
     rw[gM a];split
     · rename_i b
       unfold ix;have hp:s.lens.length≠0:=λE=>h7 ⟨b,E⟩;rw[aq,bN (show s.lens.length-1<s.lens.length by omega)];exact q2 _ (cF _)
     omega
   rw[aa o]at e⊢;by_cases h6:bb (s.lens.take s.c0) 15≠0\/bb (s.lens.drop s.c0) 15≠0\/ix s.lens 256=0
   · rw[ae h6]at e;simp at e
   rw[aa h6];exact .at6 (.inl rfl) h.bit h.left h.jU ⟨bO.1 λh7=>h6 (.inl h7),bO.1 λh7=>h6 (.inr (.inl h7))⟩ (λe=>by simp at e)
 rw[aa h5]at e⊢;by_cases h6:s.st=6
 · rw[ae h6]at e⊢;unfold IS.token at e⊢;have m:=h.h6 (.inl h6);by_cases f:(aI s.lt s.x).2.2≠0
   · rw[ae f]at e;rcases eV s.lt s.x with h6 | h6 | h6 <;> omega
   rw[aa f]at e⊢;obtain⟨k,n,l,A,y,w,u⟩ :=lT h.bit f;rw[l]at e⊢;simp only at e⊢;by_cases h7:(k:Int)<256
   · rw[ae h7];refine IS.Ok.emit (s:={ s with x:=s.x.drop n,aj:=s.aj++[cu.mk (k:Int) 0 0] }) (.at6 (.inl h6) (h.bit.dX _) h.left h.jU m (λe=>by simp [h6]at e)) ?_;intro v hv;simp at hv;subst hv;omega
   rw[aa h7]at e⊢;by_cases i:(k:Int)=256
   · rw[ae i];exact IS.Ok.over (s:={ s with x:=s.x.drop n }) (.at6 (.inl h6) (h.bit.dX _) h.left h.jU m (λe=>by simp [h6]at e))
   rw[aa i]at e⊢;by_cases q:285<(k:Int)
   · rw[ae q]at e;simp at e
   rw[aa q]at e⊢;obtain⟨j,C⟩ :=ν (((k:Int)-257).toNat);rw[C]at e⊢;by_cases b:(s.x.drop n).length<lE j
   · rw[ae b]at e;simp at e
   rw[aa b];exact .at6 (.inr rfl) ((h.bit.dX _).dX _) h.left h.jU m (λ_=>Vo ω (gD (h.bit.dX _) _))
 rw[aa h6]at e⊢;by_cases h7:s.st=7
 rotate_left
 · rw[aa h7]at e;simp at e
 rw[ae h7]at e⊢;unfold IS.bk at e⊢;have m:=h.h6 (.inr h7);by_cases f:(aI s.ds s.x).2.2≠0
 · rw[ae f]at e;rcases eV s.ds s.x with h6 | h6 | h6 <;> omega
 rw[aa f]at e⊢;obtain⟨k,n,l,A,y,w,u⟩ :=lT h.bit f;rw[l]at e⊢;simp only at e⊢;by_cases i:29<(k:Int)
 · rw[ae i]at e;simp at e
 rw[aa i]at e⊢;by_cases b:(s.x.drop n).length<dE (k:Int).toNat
 · rw[ae b]at e;simp at e
 rw[aa b]at e⊢;unfold IS.text at e⊢;have p:dJ ((s.x.drop n).drop (dE (k:Int).toNat)):=(h.bit.dX _).dX _;generalize (s.x.drop n).drop (dE (k:Int).toNat)=x1 at e p⊢;generalize dB (k:Int).toNat+num (s.x.drop n) (dE (k:Int).toNat)=D at e⊢;by_cases t:s.all.length<D
 · rw[ae t]at e;simp at e
 rw[aa t];exact IS.Ok.emit (s:={ s with x:=x1,st:=6,aj:=s.aj++[cu.mk 0 s.len D] }) (.at6 (.inl rfl) p h.left h.jU m (λe=>by simp at e)) (Sy h.jU _ _)
theorem IS.Ok.steps (h:s.Ok) (a:IS.Steps s t):t.Ok:=by
 induction a with
 | refl=>exact h
 | tail _ h2 ih=>exact ih.step (.inl h2)
theorem IS.Ok.start {x:List Int} (h:dJ x) (m:Nat):(start x m).Ok:= .at0 (.inl rfl) h (aF _) (λv hv=>by simp [Go.Proofs.YtdhmnlpfhfmpfaaGreat.start]at hv)
theorem IS.step_done (h:s.step.2=8):s.step.1=s/\s.st≠0/\s.st≠1/\s.st≠2/\s.st≠3/\s.st≠4/\s.st≠5/\s.st≠6/\s.st≠7:=by
 unfold IS.step at h⊢;have a:∀(s:IS) b,(s.emit b).2≠8:=λs b=>by unfold IS.emit;simp only;split <;> decide
 by_cases f:s.st=0
 · rw[ae f]at h;unfold IS.block at h;exfalso;revert h;repeat' split
   all_goals simp
 rw[aa f]at h⊢;by_cases e:s.st=1
 · rw[ae e]at h;unfold IS.size at h;exfalso;revert h;repeat' split
   all_goals simp
 rw[aa e]at h⊢;by_cases d:s.st=2
 · rw[ae d]at h;unfold IS.stored at h;exfalso;revert h;repeat' split
   · simp
   · simp
   exact a _ _
 rw[aa d]at h⊢;by_cases c:s.st=3
 · rw[ae c]at h;unfold IS.sizes at h;exfalso;revert h;repeat' split
   all_goals simp
 rw[aa c]at h⊢;by_cases h4:s.st=4
 · rw[ae h4]at h;unfold IS.heads at h;exfalso;revert h;repeat' split
   all_goals simp
 rw[aa h4]at h⊢;by_cases h5:s.st=5
 · rw[ae h5]at h;unfold IS.lengths IS.length IS.ku at h;exfalso;have:=eV s.hd s.x;revert h;repeat' split
   all_goals (intro h;simp at h <;> omega)
 rw[aa h5]at h⊢;by_cases h6:s.st=6
 · rw[ae h6]at h;unfold IS.token at h;exfalso;have:=eV s.lt s.x;revert h;repeat' split
   all_goals first
    | exact a _ _
    | (intro h;simp at h <;> omega)
 rw[aa h6]at h⊢;by_cases h7:s.st=7
 · rw[ae h7]at h;unfold IS.bk IS.text at h;exfalso;have:=eV s.ds s.x;revert h;repeat' split
   all_goals first
    | exact a _ _
    | (intro h;simp at h <;> omega)
 rw[aa h7];exact⟨rfl,f,e,d,c,h4,h5,h6,h7⟩
end
section
variable {s:IS} {B:List Int} {j:Nat}
theorem VG (b:∀x∈B,0<=x/\x<256) (a:j<B.length):((num (rb B (8*j)) 8:Nat):Int)=ix B j:=by
 rw[qJ (dJ.rb B _)];unfold rb;rw[Hb B a,gH];have:=NR b j;have h:(2:Int) ^ 8=256:=rfl;rw[h];omega
theorem QZ {l:List Int} {j K:Nat} (h:j+K<l.length):(l.drop j).take (K+1)=(l.drop j).take K++[ix l (j+K)]:=by
 rw[aY (by rw[av];omega)];congr 1;simp [ix,List.getD_eq_getElem?_getD,List.getElem?_eq_getElem h]
theorem BI (e:∀x∈B,0<=x/\x<256) (a:s.st=2) (b:s.x=rb B (8*j)) (d:j<B.length) (c:s.left≠0):
  s.step={ s with x:=rb B (8*(j+1)),left:=s.left-1 }.emit [ix B j]:=by
 unfold IS.step;rw[aa ω,aa ω,ae a];unfold IS.stored;rw[aa c,aa (by rw[b,im];omega),b,VG e d,kI,show 8*j+8=8*(j+1) by omega]
theorem qT (e:∀x∈B,0<=x/\x<256) (a:s.st=2) (d:s.x=rb B (8*j)) (K:Nat) (k:K<=s.left) (i:j+K<=B.length) (h:K<=s.rem):
  IS.Steps s { s with x:=rb B (8*(j+K)),left:=s.left-K,all:=s.all++(B.drop j).take K,rem:=s.rem-K }:=by
 induction K with
 | zero=>
   have:({ s with x:=rb B (8*(j+0)),left:=s.left-0,all:=s.all++(B.drop j).take 0,rem:=s.rem-0 }:IS)=s:=by
    rw[Nat.add_zero,<-d,iz,ax];rfl
   rw[this];exact .refl s
 | succ K c=>
   have g:=c ω ω ω;have f:=BI (s:={ s with x:=rb B (8*(j+K)),left:=s.left-K,all:=s.all++(B.drop j).take K,rem:=s.rem-K }) e a rfl ω (by show s.left-K≠0;omega)
   have b:IS.step { s with x:=rb B (8*(j+K)),left:=s.left-K,all:=s.all++(B.drop j).take K,rem:=s.rem-K }=({ s with x:=rb B (8*(j+(K+1))),left:=s.left-(K+1),all:=s.all++(B.drop j).take (K+1),rem:=s.rem-(K+1) },0):=by
    rw[f];unfold IS.emit;simp only;rw[aa ξ,ay (l:=[ix B (j+K)]) ξ,QZ ω,ak,show s.left-K-1=s.left-(K+1) by omega,show s.rem-K - [ix B (j+K)].length=s.rem-(K+1) by simp;omega];rfl
   have h4:=IS.Steps.tail g (by rw[b])
   rwa [b]at h4
theorem Mx (b:∀x∈B,0<=x/\x<256) (a:s.st=2) (e:s.x=rb B (8*j)) (K:Nat) (i:K<=s.left) (h:j+K<=B.length) (g:s.rem<K):
  s.fin.2=6/\s.fin.1.all=s.all++(B.drop j).take s.rem:=by
 have f:=qT b a e s.rem ω ω (ag _);have d:=BI (s:={ s with x:=rb B (8*(j+s.rem)),left:=s.left-s.rem,all:=s.all++(B.drop j).take s.rem,rem:=s.rem-s.rem }) b a rfl ω (by show s.left-s.rem≠0;omega)
 have c:(IS.step { s with x:=rb B (8*(j+s.rem)),left:=s.left-s.rem,all:=s.all++(B.drop j).take s.rem,rem:=s.rem-s.rem }).2=6:=by
  rw[d];unfold IS.emit;simp
 rw[<-f.mr,IS.ir (by rw[c];decide)];refine⟨c, ?_⟩;rw[d];unfold IS.emit;simp
end
section
variable {s:IS} {y pad B:List Int}
theorem sJ {x z:List Int} {n:Nat} (h:x.length=n):num (x++z) n=(fH x).toNat:=by
 rw[nP ω];unfold num;rw[ay ω]
theorem SB {R:List Int} (hp:pad.length<8) (a:R.length%8=0):lD (pad++R)=R:=by
 unfold lD;rw[af,show(pad.length+R.length)%8=pad.length by omega,gv]
theorem lL {a R:List Int} {n:Nat} (h:a.length=n):(a++R).drop n=R:=by subst h;exact gv
theorem Wt (n:Nat) (h:n<=65535) (z:List Int):num (dv n 16++dv (65535-n) 16++z) 32=n+65536*(65535-n):=by
 rw[sJ (by rw[af,aP,aP]),iZ,aP,gH,gH];have e:(2:Int) ^ 16=65536:=δ;rw[e];omega
theorem Hr (a:y.length%8=0) (b:dJ y):gG (jO y)=y:=by
 have h:=Y7 b;have:rest y=[]:=aC (by rw[jS];exact a);rw[this,ax]at h;exact h
theorem G0 (d:s.st=0) {h:Int} (e:h=0\/h=1) (b:s.x=[h,0,0]++(pad++(dv B.length 16++dv (65535-B.length) 16++(gG B++y)))) (hp:pad.length<8) (q:y.length%8=0) (k:dJ y) (w:∀x∈B,0<=x/\x<256) (c:B.length<=65535) (t:B.length<=s.rem):
  IS.Steps s ({ s with last:=decide (h=1),kinds:=s.kinds++[0],left:=0,all:=s.all++B,rem:=s.rem-B.length,x:=y,st:=2 }:IS).over:=by
 have u:num s.x 3=h.toNat:=by
  rw[b,sJ (x:=[h,0,0]) (n:=3) rfl];rcases e with rfl | rfl <;> rfl
 have xX:s.x.drop 3=pad++(dv B.length 16++dv (65535-B.length) 16++(gG B++y)):=by rw[b];rfl
 have v:(dv B.length 16++dv (65535-B.length) 16++(gG B++y)).length=32+(8*B.length+y.length):=by
  rw[af,af,af,aP,aP,eT]
 have p:s.step=({ s with last:=decide (h=1),kinds:=s.kinds++[0],x:=dv B.length 16++dv (65535-B.length) 16++(gG B++y),st:=1 },0):=by
  unfold IS.step;rw[ae d];unfold IS.block;rw[aa (by rw[b,af];simp),u,ae (by rcases e with rfl | rfl <;> rfl),xX,SB hp ω];rcases e with rfl | rfl <;> rfl
 have o:({ s with last:=decide (h=1),kinds:=s.kinds++[0],x:=dv B.length 16++dv (65535-B.length) 16++(gG B++y),st:=1 }:IS).step=({ s with last:=decide (h=1),kinds:=s.kinds++[0],x:=gG B++y,left:=B.length,st:=2 },0):=by
  unfold IS.step;rw[aa σ,ae rfl];unfold IS.size;simp only;rw[aa (by rw[v];omega),Wt _ c,ae ω,lL (by rw[af,aP,aP])];congr 2;omega
 have f:∀x∈B++jO y,0<=x/\x<256:=λx b=>by
  rcases aN.1 b with i | i
  · exact w x i
  exact SJ k x i
 have a:gG (B++jO y)=gG B++y:=by rw[ua,Hr q k]
 have l:=qT (s:={ s with last:=decide (h=1),kinds:=s.kinds++[0],x:=gG B++y,left:=B.length,st:=2 }) (B:=B++jO y) (j:=0) f rfl (by show gG B++y=(gG (B++jO y)).drop 0;rw[a];rfl) B.length (ag _) (by rw[af];omega) t
 have r:rb (B++jO y) (8*(0+B.length))=y:=by
  unfold rb;rw[a,bZ];exact lL (by rw[eT])
 rw[r,iw,gy]at l
 have m:({ s with last:=decide (h=1),kinds:=s.kinds++[0],left:=0,all:=s.all++B,rem:=s.rem-B.length,x:=y,st:=2 }:IS).step=(({ s with last:=decide (h=1),kinds:=s.kinds++[0],left:=0,all:=s.all++B,rem:=s.rem-B.length,x:=y,st:=2 }:IS).over,0):=by
  unfold IS.step;rw[aa σ,aa σ,ae rfl];unfold IS.stored;rw[ae rfl]
 have s1:=IS.Steps.one (s:=s) (by rw[p]);rw[p]at s1;have s2:=s1.tail (by rw[o]);rw[o]at s2
 have g:IS.Steps { s with last:=decide (h=1),kinds:=s.kinds++[0],x:=gG B++y,left:=B.length,st:=2 } { s with last:=decide (h=1),kinds:=s.kinds++[0],left:=0,all:=s.all++B,rem:=s.rem-B.length,x:=y,st:=2 }:=by
  have:=l;simp only [Nat.sub_self]at this;exact this
 have s4:=(s2.trans g).tail (by rw[m]);rw[m]at s4;exact s4
end
def wu (lit bk:List Int) (t:cu):Prop:=if t.len=0 then 1<=ix lit t.lit.toNat else 1<=ix lit (257+jg t.len)/\1<=ix bk (fk t.bk)
structure Co (t:IS) (lit bk:List Int) (last:Bool) (x all:List Int) (rem:Nat) (kinds stops:List Int) (aj:List cu):Prop where
 st:t.st=6
 lt:t.lt=lit
 ds:t.ds=bk
 last:t.last=last
 x:t.x=x
 all:t.all=all
 rem:t.rem=rem
 kinds:t.kinds=kinds
 stops:t.stops=stops
 aj:t.aj=aj
theorem G3 {l:List Int} {s:Nat} (h:1<=ix l s):s<l.length:=by
 rcases aZ s l.length with a | a
 · exact a
 have:ix l s=0:=by unfold ix;rw[aq,br a];rfl
 omega
theorem tC {l:List Int} (c:bb l 15=0) {s:Nat} (h:1<=ix l s) (z:List Int):aI l (cN l s++z)=((s:Int),(ix l s).toNat,0)/\(cN l s++z).drop (ix l s).toNat=z:=by
 obtain⟨c1,c2,d⟩ :=kX c;have b:=G3 h;have e:=c2 s b;have a:=fU l s;refine⟨Jz (N:=(ix l s).toNat) _ ω ω ω b d ?_ ?_, ?_⟩
 · rw[<-a];exact gy
 · rw[af,a];omega
 rw[<-a];exact gv
section
variable {t:IS} {lit bk:List Int} {last:Bool} {x y all:List Int} {rem:Nat} {kinds stops:List Int} {aj:List cu}
theorem IS.Wy (h:t.st=6):t.step=t.token:=by
 unfold IS.step;rw[aa ω,aa ω,aa ω,aa ω,aa ω,aa ω,ae h]
theorem IS.a86 (h:t.st=7):t.step=t.bk:=by
 unfold IS.step;rw[aa ω,aa ω,aa ω,aa ω,aa ω,aa ω,aa ω,ae h]
theorem R6 {k:cu} {m:List Int} (h:Co t lit bk last (sT lit bk k++y) all rem kinds stops aj) (S:bb lit 15=0) (qg:bb bk 15=0) (hl:lit.length<=288) (f:cC k) (Q:0<=k.lit/\k.lit<256) (P:wu lit bk k) (a:step all k=(0,m)) (p:m.length<=all.length+rem):
  ∃O,IS.Steps t O/\Co O lit bk last y m (rem-(m.length-all.length)) kinds stops (aj++[k]):=by
 obtain⟨K,N,D⟩ :=k;obtain⟨d,rfl⟩ :∃d:Nat,K=(d:Int):= ⟨K.toNat,by have c:0<=K:=Q.1;omega⟩;have oP:d<256:=by have c:(d:Int)<256:=Q.2;omega
 unfold step at a;rw[aa (by simpa using f)]at a;by_cases hN:N=0
 · subst hN;have hD:D=0:=by unfold cC at f;rw[ae rfl]at f;exact f
   subst hD;split at a
   · simp at a
   rename_i kg
   have J:all++[(d:Int)]=m:=by simpa using a
   subst J;have g:t.x=cN lit d++y:=by rw[h.x];rfl
   have F:1<=ix lit d:=by have c:=P;unfold wu at c;rw[ae rfl]at c;exact c
   obtain⟨C,B⟩ :=tC S F y
   have l:t.step=({ t with x:=y,aj:=t.aj++[cu.mk (d:Int) 0 0],all:=t.all++[(d:Int)].take t.rem,rem:=t.rem-1 },if t.rem<1 then 6 else 0):=by
    rw[IS.Wy h.st];unfold IS.token;rw[h.lt,g,C];simp only;rw[aa δ,ae ω,B];rfl
   have G:1<=t.rem:=by rw[h.rem];rw[af,cJ]at p;omega
   rw[aa ω]at l;have c:=IS.Steps.one (s:=t) (by rw[l]);rw[l]at c;refine⟨_,c, ⟨h.st,h.lt,h.ds,h.last,rfl, ?_, ?_,h.kinds,h.stops, ?_⟩⟩
   · show t.all++[(d:Int)].take t.rem=_;rw[h.all,ay (by simpa using G)]
   · show t.rem-1=_;rw[h.rem,af,cJ];omega
   show t.aj++_=_;rw[h.aj]
 obtain⟨⟨u,e⟩, ⟨d1,d2⟩,RR,X⟩ :=sU f hN;replace u:3<=N:=u;replace e:N<=258:=e;replace d1:1<=D:=d1;replace d2:D<=32768:=d2;have E:(d:Int)=0:=by unfold cC at f;rw[aa hN]at f;exact f.1
 rw[E]at a h⊢;split at a
 · simp at a
 rename_i kg
 try rw[aa hN]at a
 split at a
 · simp at a
 rename_i R
 have J:all++again all D.toNat N.toNat=m:=by simpa using a
 subst J;have R:¬(all.length:Int)<D:=R;have A:=(mE u).a1x e;have z:=(mE u).2.1;have w:=(kM d1).a1w d2;have v:=(kM d1).2.1;have I:jg N<=28:=RR;have H:fk D<=29:=X;obtain⟨o,n⟩ :1<=ix lit (257+jg N)/\1<=ix bk (fk D):=by have c:=P;unfold wu at c;rw[aa hN]at c;exact c
 have g:t.x=cN lit (257+jg N)++(dv (N-((lB (jg N):Nat):Int)) (lE (jg N))++(cN bk (fk D)++(dv (D-((dB (fk D):Nat):Int)) (dE (fk D))++y))):=by
  rw[h.x];unfold sT;rw[aa hN];simp only [List.append_assoc]
 obtain⟨j,hj⟩ :=ν (jg N);obtain⟨q,hq⟩ :=ν (fk D);rw[hj]at A z I o g;rw[hq]at w v H n g;obtain⟨V,hV⟩ :∃V:Nat,N-((lB j:Nat):Int)=(V:Int):= ⟨(N-((lB j:Nat):Int)).toNat,ω⟩;obtain⟨U,hU⟩ :∃U:Nat,D-((dB q:Nat):Int)=(U:Int):= ⟨(D-((dB q:Nat):Int)).toNat,ω⟩;rw[hV]at A g;rw[hU]at w g;obtain⟨C,B⟩ :=tC S o (dv (V:Int) (lE j)++(cN bk q++(dv (U:Int) (dE q)++y)))
 have Y:num (dv (V:Int) (lE j)++(cN bk q++(dv (U:Int) (dE q)++y))) (lE j)=V:=by
  rw[sJ (aP _ _),gH,bn ω (by exact_mod_cast A)];rfl
 have l:t.step=({ t with x:=cN bk q++(dv (U:Int) (dE q)++y),len:=lB j+V,st:=7 },0):=by
  rw[IS.Wy h.st];unfold IS.token;rw[h.lt,g,C];simp only;rw[aa δ,aa ω,aa ω,aa ω,B,show(((257+j:Nat):Int)-257).toNat=j by omega,aa (by rw[af,aP];omega),Y,lL (aP _ _)]
 obtain⟨s2,i⟩ :∃s2:IS,s2={ t with x:=cN bk q++(dv (U:Int) (dE q)++y),len:=lB j+V,st:=7 }:= ⟨_,rfl⟩;rw[<-i]at l
 have a2:s2.st=7/\s2.lt=lit/\s2.ds=bk/\s2.last=last/\s2.x=cN bk q++(dv (U:Int) (dE q)++y)/\s2.len=lB j+V/\s2.all=all/\s2.rem=rem/\s2.kinds=kinds/\s2.stops=stops/\s2.aj=aj:=by
  rw[i];exact⟨rfl,h.lt,h.ds,h.last,rfl,rfl,h.all,h.rem,h.kinds,h.stops,h.aj⟩
 clear i;obtain⟨b1,b2,b3,b4,b5,b6,b7,b8,b9,tQ,lZ⟩ :=a2;obtain⟨m1,m2⟩ :=tC qg n (dv (U:Int) (dE q)++y)
 have Z:num (dv (U:Int) (dE q)++y) (dE q)=U:=by
  rw[sJ (aP _ _),gH,bn ω (by exact_mod_cast w)];rfl
 have b:(again all (dB q+U) (lB j+V)).length=lB j+V:=cG _ _ _;have T:N.toNat=lB j+V:=ω;have r:D.toNat=dB q+U:=ω;rw[af,T,r,b]at p
 have W:s2.step=({ s2 with x:=y,st:=6,aj:=s2.aj++[cu.mk 0 N D],all:=all++again all (dB q+U) (lB j+V),rem:=rem-(lB j+V) },0):=by
  rw[IS.a86 b1];unfold IS.bk;rw[b3,b5,m1];simp only;rw[aa δ,aa ω,m2,show((q:Int)).toNat=q by omega,aa (by rw[af,aP];omega),Z,lL (aP _ _)];unfold IS.text;rw[aa (by rw[b7];omega)];unfold IS.emit;simp only;rw[b7,b8,b6,b,aa ω,ay (by rw[b];omega),show((lB j+V:Nat):Int)=N by omega,show((dB q+U:Nat):Int)=D by omega,b3]
 have M:=IS.Steps.one (s:=t) (by rw[l]);rw[l]at M;have L:=M.tail (by rw[W]);rw[W]at L;rw[T,r];refine⟨_,L, ⟨rfl,b2,b3,b4,rfl,rfl, ?_,b9,tQ, ?_⟩⟩
 · show rem-(lB j+V)=_;rw[af,b];omega
 show s2.aj++_=_;rw[lZ]
theorem BS (g:bb lit 15=0) (i:bb bk 15=0) (f:lit.length<=288):∀(l:List cu) (t:IS) (all mZ:List Int) (rem:Nat) (aj:List cu),Co t lit bk last (iQ lit bk l++y) all rem kinds stops aj->(∀k∈l,cC k/\(0<=k.lit/\k.lit<256)/\wu lit bk k)->expand all l=(0,mZ)->mZ.length<=all.length+rem->
  ∃d,IS.Steps t d/\Co d lit bk last y mZ (rem-(mZ.length-all.length)) kinds stops (aj++l)
 | [],t,all,mZ,rem,aj,h,_,he,_=>by
   have e:all=mZ:=by simpa [expand] using he
   subst e;exact⟨t, .refl t,by rw[ax,dR,jz];exact h⟩
 | k::l,t,all,mZ,rem,aj,h,hk,he,hr=>by
   rw[jQ]at he;obtain⟨p,o,n⟩ :=hk k az;by_cases a:(step all k).1=0
   rotate_left
   · rw[aa a]at he;rw[he]at a;exact absurd rfl a
   rw[ae a]at he;have v:=WB a;have b:step all k=(0,(step all k).2):=by rw[<-a]
   have s:(step all k).2.length<=mZ.length:=by
    obtain⟨z,hz⟩ :=tv (out:=(step all k).2) (l:=l) (by rw[he]);rw[he]at hz;rw[show mZ=(step all k).2++z from hz,af];omega
   have h':Co t lit bk last (sT lit bk k++(iQ lit bk l++y)) all rem kinds stops aj:=by
    have:iQ lit bk (k::l)++y=sT lit bk k++(iQ lit bk l++y):=by
     show(sT lit bk k++iQ lit bk l)++y=_;rw[ak]
    rw[<-this];exact h
   obtain⟨m,s1,u⟩ :=R6 h' g i f p o n b ω;obtain⟨j,s2,c⟩ :=BS g i f l m _ mZ _ _ u (λq r=>hk q (aB _ r)) he ω;refine⟨j,s1.trans s2, ?_⟩;rw[ak]at c;have e:rem-((step all k).2.length-all.length)-(mZ.length-(step all k).2.length)=rem-(mZ.length-all.length):=ω;rw[e]at c;exact c
theorem CR {l:List cu} {a:List Int} (h:Co t lit bk last (jY lit bk l++y) all rem kinds stops aj) (g:bb lit 15=0) (q:bb bk 15=0) (n:lit.length<=288) (d:1<=ix lit 256) (o:∀k∈l,cC k/\(0<=k.lit/\k.lit<256)/\wu lit bk k) (p:expand all l=(0,a)) (m:a.length<=all.length+rem):
  ∃f,IS.Steps t ({ f with x:=y }:IS).over/\Co f lit bk last (cN lit 256++y) a (rem-(a.length-all.length)) kinds stops (aj++l):=by
 have h':Co t lit bk last (iQ lit bk l++(cN lit 256++y)) all rem kinds stops aj:=by
  have:jY lit bk l++y=iQ lit bk l++(cN lit 256++y):=by unfold jY;rw[ak]
  rw[<-this];exact h
 obtain⟨c,s1,b⟩ :=BS g q n l t all a rem aj h' o p m;obtain⟨j,i⟩ :=tC g d y
 have e:c.step=(({ c with x:=y }:IS).over,0):=by
  rw[IS.Wy b.st];unfold IS.token;rw[b.lt,b.x,j];simp only;rw[aa δ,aa δ,ae δ,i]
 have s2:=s1.tail (by rw[e]);rw[e]at s2;exact⟨c,s2,b⟩
end
end Go.Proofs.YtdhmnlpfhfmpfaaGreat
