/-
  part
-/
import Derived.Test.YtdhmnlpfhfmpfaaGreatRev
set_option linter.unusedVariables false
set_option maxRecDepth 100000
set_option maxHeartbeats 4000000
namespace Go.Proofs.YtdhmnlpfhfmpfaaGreat
open Go Go.RowKit
theorem Ry (x:aj) {n:Nat} (h:n<x.length):x.take (n+1)=x.take n++[ix x n]:=by
 rw[bb h];congr 2;simp [ix,h]
theorem VO (x:aj) {n:Nat} (h:n<=x.length):hv x n=fM (x.take n).reverse:=by
 induction n with
 | zero=>rfl
 | succ n a=>
   rw[Ry x ω,List.reverse_append,hv,a ω];show _=ix x n+2*fM (x.take n).reverse;omega
theorem dO.rev {l:aj} (h:dO l):dO l.reverse:=λx a=>h x (List.mem_reverse.1 a)
theorem BX (l:aj) (s:Nat):cR l s=(dw (fk l s) (ix l s).toNat).reverse:=by
 have h:=wB (dO.rev (dO.dw (fk l s) (ix l s).toNat));rw[gQ,aR]at h;exact h
theorem fY (l:aj) (s:Nat):(cR l s).length=(ix l s).toNat:=by unfold cR;rw[aR]
theorem dO.sym (l:aj) (s:Nat):dO (cR l s):=dO.dw _ _
theorem ln {l:aj} {most:Int} (h:bg l most=0):l.length<=288/\(∀i,i<l.length->0<=ix l i/\ix l i<=15)/\sumTo l l.length<=32768:=by
 unfold bg at h;split at h
 · simp at h
 split at h
 · simp at h
 split at h
 · simp at h
 rename_i c a b
 refine⟨ω, ?_,ω⟩;have:zh l most l.length=true:=by simpa using a
 have h4:∀i,i<l.length->0<=ix l i/\ix l i<=most:=by simpa [zh] using this
 exact λi hi=> ⟨(h4 i hi).1,τ ((h4 i hi).2)⟩
theorem a1a {l:aj} {m:Nat} (b:1<=m) (a:m<=15):(nQ l m+cnt l l.length m)*qX m=GF l l.length m:=by
 obtain⟨u,rfl⟩ :∃u,m=u+1:= ⟨m-1,ω⟩;rw[eD,Ol l (u+1) b a];rfl
theorem MS {l:aj} {s N m:Nat} (x:aj) (e:ix l s=N) (g:1<=N) (f:N<=15) (b:s<l.length) (d:sumTo l l.length<=32768) (a:x.take N=cR l s) (c:m<=N) (h:N<=x.length):hv x m=((fk l s/2 ^ (N-m):Nat):Int):=by
 have hf:=Pv g f e b d;rw[VO x ω];have:x.take m=(cR l s).take m:=by rw[<-a,iD,bH c]
 rw[this,BX,e,aX,List.reverse_take,List.reverse_reverse,gQ,aR,tM (dO.dw _ _),gL];rw[bz ω (by rw[<-ll];omega)];rw[Int.natCast_ediv,ll]
theorem JO {l:aj} {s N:Nat} (x:aj) (e:ix l s=N) (j:1<=N) (f:N<=15) (g:s<l.length) (p:sumTo l l.length<=32768) (k:x.take N=cR l s) (o:N<=x.length):aK l x=((s:Int),N,0):=by
 have r:=qD j f e;have v:=qC g e
 have n:∀m,m<N->fh l x m=0:=by
  intro m;induction m with
  | zero=>intro _;rfl
  | succ m t=>
    intro q;rw[kv (t ω),aa];unfold xD;rw[MS x e j f g p k (dh q) o];have a:=a1a (l:=l) (show 1<=m+1 by omega) ω
    have b:GF l l.length (m+1)<=placeOf l s:=by
     rw[Bv j f e];have:=JU l l.length (show m+1<=N-1 by omega);omega
    unfold placeOf at b;rw[e,aX,<-a,Oy (dh q) f,<-i6]at b;have c:=Nat.le_of_mul_le_mul_right b (xT N).1;have d:=(Nat.le_div_iff_mul_le (fQ (N-(m+1)))).2 c;simp only [decide_eq_true_eq];omega
 have i:fh l x N=N:=by
  obtain⟨u,rfl⟩ :∃u,N=u+1:= ⟨N-1,ω⟩;rw[kv (n u ω),af];unfold xD;rw[MS x e j f g p k (ai _) o,dG,Nat.pow_zero,Nat.div_one,r];simp only [decide_eq_true_eq];omega
 have w:N<=tK l 15:=by
  rcases aV (tK l 15) N with h | h
  · have:=DG l h f;omega
  exact h
 have hF:fh l x (min x.length (tK l 15))=N:=by rw[tI (m:=N) (by rw[i];omega) ω,i]
 rw[qd];unfold Ja;rw[hF,af ω,MS x e j f g p k (ai _) o,dG,Nat.pow_zero,Nat.div_one,r];have:(((nQ l N+cnt l s N:Nat):Int)-(nQ l N:Int)).toNat=cnt l s N:=ω;rw[this];unfold CQ;rw[Fw l g e]
theorem Wh {l x:aj} (g:dO x) (h:(aK l x).2.2=0):∃s N:Nat,aK l x=((s:Int),N,0)/\s<l.length/\ix l s=N/\1<=N/\N<=15/\N<=x.length/\x.take N=cR l s:=by
 have hp:=jn h;rw[qd]at h hp⊢;obtain⟨F,hF⟩ :=ν (fh l x (min x.length (tK l 15)));unfold Ja at h hp⊢;rw[hF]at h hp⊢;by_cases hf:F=0
 · rw[aa ω]at h;split at h
   · simp at h
   split at h <;> simp at h
 rw[af hf]at hp⊢;simp only at hp
 have hit:xD l x F=true/\∀m,m<F->fh l x m=0:=by
  have d:∀M,fh l x M=F->xD l x F=true/\∀m,m<F->fh l x m=0:=by
   intro M;induction M with
   | zero=>intro b;exact absurd b.symm hf
   | succ M o=>
     intro b;by_cases e:fh l x M=0
     · rw[kv e]at b;split at b
       · rename_i t
         subst b;exact⟨t,λm r=>L9 e m ω⟩
       omega
     exact o ((tI e (fq M)).symm.trans b)
  exact d _ hF
 obtain⟨p,rfl⟩ :∃p,F=p+1:= ⟨F-1,ω⟩;have w:=VN g (n:=p) (λm r=>hit.2 m ω);have c:=hit.1;unfold xD at c;simp only [decide_eq_true_eq]at c;obtain⟨J,y⟩ :=aJ (show 0<=hv x (p+1)-(nQ l (p+1):Int) by omega);obtain⟨s,f,a,hs3,q⟩ :=Dz l (n:=p+1) (j:=J) (k:=l.length) ω;refine⟨s,p+1, ?_,f,a,ω,hp.2.2,hp.2.1, ?_⟩
 · have:(hv x (p+1)-(nQ l (p+1):Int)).toNat=J:=ω;rw[this];unfold CQ;rw[q]
 have u:=qD (show 1<=p+1 by omega) hp.2.2 a;rw[BX,a,aX,u,hs3];have v:((nQ l (p+1)+J:Nat):Int)=fM (x.take (p+1)).reverse:=by rw[<-VO x hp.2.1];omega
 have i:=wB (dO.rev (g.um (p+1)));rw[gQ,aD,bH hp.2.1]at i;rw[v,i,List.reverse_reverse]
def DD (B:Nat->Nat) (n:Int):Nat->Nat
 | 0=>0
 | t+1=>if((B (t+1):Nat):Int)<=n then t+1 else DD B n t
theorem uJ {B:Nat->Nat} {n:Int} (d:((B 0:Nat):Int)<=n):∀a,sf B a n (DD B n a)
 | 0=> ⟨ai _,d,λi c b=>by simp [DD]at c;omega⟩
 | t+1=>by
   unfold DD;by_cases h:((B (t+1):Nat):Int)<=n
   · rw[af h];exact⟨ai _,h,λi c b=>ω⟩
   rw[aa h];obtain⟨c,b,f⟩ :=uJ d t;refine⟨ω,b,λi h4 h5=> ?_⟩;by_cases e:i=t+1
   · subst e;omega
   exact f i h4 ω
def jm (n:Int):Nat:=DD lB n 28
def fj (n:Int):Nat:=DD dB n 29
theorem mN {n:Int} (h:3<=n):sf lB 28 n (jm n):=uJ (by show((3:Nat):Int)<=n;omega) 28
theorem kY {n:Int} (h:1<=n):sf dB 29 n (fj n):=uJ (by show((1:Nat):Int)<=n;omega) 29
theorem Ae {n:Int} {v:Value} (h:kV lB lE 3 258 257 28 n v) (b:3<=n/\n<=258):v= .tuple #[.int .i64 (257+((jm n:Nat):Int)), .int .i64 ((lE (jm n):Nat):Int), .int .i64 (n-((lB (jm n):Nat):Int))]:=by
 rcases h with ⟨h,_⟩ | ⟨_,j,a,h⟩
 · omega
 rw[h,a.uniq (mN b.1)]
theorem xp {n:Int} {v:Value} (h:kV dB dE 1 32768 0 29 n v) (b:1<=n/\n<=32768):v= .tuple #[.int .i64 ((fj n:Nat):Int), .int .i64 ((dE (fj n):Nat):Int), .int .i64 (n-((dB (fj n):Nat):Int))]:=by
 rcases h with ⟨h,_⟩ | ⟨_,j,a,h⟩
 · omega
 rw[h,a.uniq (kY b.1),Int.zero_add]
def tv (lit bm:aj) (t:cy):aj:=
 if t.len=0 then cR lit t.lit.toNat
 else cR lit (257+jm t.len)++dw (t.len-((lB (jm t.len):Nat):Int)) (lE (jm t.len))++cR bm (fj t.bm)++dw (t.bm-((dB (fj t.bm):Nat):Int)) (dE (fj t.bm))
def iW (lit bm:aj) (l:List cy):aj:=l.flatMap (tv lit bm)
def kr (lit bm:aj) (l:List cy):aj:=iW lit bm l++cR lit 256
theorem Ei (lit bm:aj) (a b:List cy):iW lit bm (a++b)=iW lit bm a++iW lit bm b:=by simp [iW]
theorem Ej (lit bm:aj) (t:cy):iW lit bm [t]=tv lit bm t:=by simp [iW]
theorem wQ {l:List cy} {k:Nat} (h:k<l.length):l.take (k+1)=l.take k++[dV l k]:=by
 rw[bb h];simp [dV,h]
theorem pK {l:aj} (h:∀i,i<l.length->0<=ix l i/\ix l i<=15) (s:Nat):(cR l s).length<=15:=by
 rw[fY];by_cases e:s<l.length
 · have:=h s e;omega
 have:ix l s=0:=by unfold ix;rw[aq,bw ω];rfl
 rw[this];exact aF _
theorem tz {t:cy} (h:cF t) (a:t.len≠0):(3<=t.len/\t.len<=258)/\(1<=t.bm/\t.bm<=32768)/\jm t.len<=28/\fj t.bm<=29:=by
 unfold cF at h;rw[aa a]at h;exact⟨⟨h.2.1,h.2.2.1⟩, ⟨h.2.2.2.1,h.2.2.2.2⟩,(mN h.2.1).1,(kY h.2.2.2.1).1⟩
theorem a4R {lit bm:aj} (b:∀i,i<lit.length->0<=ix lit i/\ix lit i<=15) (hd:∀i,i<bm.length->0<=ix bm i/\ix bm i<=15) {t:cy} (h:cF t):(tv lit bm t).length<=48:=by
 unfold tv;by_cases a:t.len=0
 · rw[af a];have:=pK b t.lit.toNat;omega
 rw[aa a];obtain⟨_,_,d,h4⟩ :=tz h a;have h5:=(IY (jm t.len) ω).2.2;have h6:=(KU (fj t.bm) ω).2.2;have h7:=pK b (257+jm t.len);have c:=pK hd (fj t.bm);rw[ag,ag,ag,aR,aR];omega
theorem zK {lit bm:aj} (a:∀i,i<lit.length->0<=ix lit i/\ix lit i<=15) (hd:∀i,i<bm.length->0<=ix bm i/\ix bm i<=15):∀l:List cy,(∀t∈l,cF t)->(iW lit bm l).length<=48*l.length
 | [],_=>by simp [iW]
 | t::l,h=>by
   have d:=a4R a hd (h t aH);have c:=zK a hd l λu b=>h u (aI _ b);show(tv lit bm t++iW lit bm l).length<=_;rw[ag,bc];omega
section
variable {s t:IS} {x y b:aj} {n m:Nat}
theorem IS.Jf (s:IS) (h:y.length%8=0):(s.app y).over=s.over.app y:=by
 unfold IS.over;have a:(s.app y).last=s.last:=rfl;rw[a];split
 · show IS.mk (lN (s.x++y)) _ _ _ _ _ _ _ _ _ _ _ _ _ _ _ _=_;rw[Ha h];rfl
 rfl
theorem IS.eN (a:s.step.2≠5) (p:y.length%8=0):(s.app y).step=(s.step.1.app y,s.step.2):=by
 have b:∀x:aj,(x++y).length=x.length+y.length:=λx=>ag;have q:(s.app y).st=s.st:=rfl;have f:(s.app y).x=s.x++y:=rfl;unfold IS.step at a⊢;rw[q];by_cases v:s.st=0
 · simp only [if_pos v]at a⊢;unfold IS.block at a⊢;by_cases c:s.x.length<3
   · rw[af c]at a;simp at a
   rw[aa c,aa (by rw[f,b];omega),f,nX ω,iv ω,Ha p];split
   · rfl
   split
   · rfl
   split
   · rfl
   rfl
 simp only [if_neg v]at a⊢;by_cases u:s.st=1
 · simp only [if_pos u]at a⊢;unfold IS.size at a⊢;by_cases c:s.x.length<32
   · rw[af c]at a;simp at a
   rw[aa c,aa (by rw[f,b];omega),f,nX ω,iv ω];split
   · rfl
   rfl
 simp only [if_neg u]at a⊢;by_cases t:s.st=2
 · simp only [if_pos t]at a⊢;unfold IS.stored at a⊢;have j:(s.app y).left=s.left:=rfl;rw[j];by_cases h:s.left=0
   · rw[af h,af h,IS.Jf s p]
   rw[aa h]at a;rw[aa h,aa h];by_cases c:s.x.length<8
   · rw[af c]at a;simp at a
   rw[aa c,aa (by rw[f,b];omega),f,nX ω,iv ω];rfl
 simp only [if_neg t]at a⊢;by_cases r:s.st=3
 · simp only [if_pos r]at a⊢;unfold IS.sizes at a⊢;by_cases c:s.x.length<14
   · rw[af c]at a;simp at a
   rw[aa c,aa (by rw[f,b];omega),f,nX ω,iv ω];split
   · rfl
   rfl
 simp only [if_neg r]at a⊢;by_cases h4:s.st=4
 · simp only [if_pos h4]at a⊢;unfold IS.heads at a⊢;have j:(s.app y).lens=s.lens:=rfl;have g:(s.app y).c2=s.c2:=rfl;rw[j,g];by_cases g:s.lens.length<s.c2
   · rw[af g]at a;rw[af g,af g];by_cases c:s.x.length<3
     · rw[af c]at a;simp at a
     rw[aa c,aa (by rw[f,b];omega),f,nX ω,iv ω];rfl
   rw[aa g,aa g];split
   · rfl
   rfl
 simp only [if_neg h4]at a⊢;by_cases h5:s.st=5
 · simp only [if_pos h5]at a⊢;unfold IS.lengths at a⊢;have j:(s.app y).lens=s.lens:=rfl;have n:(s.app y).c0=s.c0:=rfl;have m:(s.app y).c1=s.c1:=rfl;have l:(s.app y).hd=s.hd:=rfl;rw[j,n,m];by_cases g:s.lens.length<s.c0+s.c1
   · rw[af g]at a;rw[af g,af g];unfold IS.length at a⊢;rw[l,f,j]
     have k:(aK s.hd s.x).2.2≠5:=by
      intro e;rw[af (by rw[e];simp)]at a;exact a e
     rw[uN _ _ _ k];by_cases e:(aK s.hd s.x).2.2≠0
     · rw[af e,af e]
     have hp:=jn (bN.1 e);rw[aa e]at a;rw[aa e,aa e,iv ω];by_cases h6:(aK s.hd s.x).1<16
     · rw[af h6,af h6];rfl
     rw[aa h6]at a;rw[aa h6,aa h6];by_cases h7:(aK s.hd s.x).1=16/\s.lens.length=0
     · rw[af h7,af h7]
     rw[aa h7]at a;rw[aa h7,aa h7];by_cases d:(s.x.drop (aK s.hd s.x).2.1).length<IS.rW (aK s.hd s.x).1
     · rw[af d]at a;simp at a
     rw[aa d,aa (by rw[b];omega)];unfold IS.kG;rw[nX ω,iv ω,j,n,m];split
     · rfl
     rfl
   rw[aa g,aa g];split
   · rfl
   rfl
 simp only [if_neg h5]at a⊢;by_cases h6:s.st=6
 · simp only [if_pos h6]at a⊢;unfold IS.token at a⊢;have l:(s.app y).lt=s.lt:=rfl;rw[l,f]
   have k:(aK s.lt s.x).2.2≠5:=by
    intro e;rw[af (by rw[e];simp)]at a;exact a e
   rw[uN _ _ _ k];by_cases e:(aK s.lt s.x).2.2≠0
   · rw[af e,af e]
   have hp:=jn (bN.1 e);rw[aa e]at a;rw[aa e,aa e,iv ω];by_cases h7:(aK s.lt s.x).1<256
   · rw[af h7,af h7];rfl
   rw[aa h7]at a;rw[aa h7,aa h7];by_cases d:(aK s.lt s.x).1=256
   · rw[af d,af d];have:=IS.Jf { s with x:=s.x.drop (aK s.lt s.x).2.1 } p;show(IS.over _,_)=_;rw[<-this];rfl
   rw[aa d]at a;rw[aa d,aa d];by_cases o:285<(aK s.lt s.x).1
   · rw[af o,af o]
   rw[aa o]at a;rw[aa o,aa o];by_cases i:(s.x.drop (aK s.lt s.x).2.1).length<lE ((aK s.lt s.x).1-257).toNat
   · rw[af i]at a;simp at a
   rw[aa i,aa (by rw[b];omega),nX ω,iv ω];rfl
 simp only [if_neg h6]at a⊢;by_cases h7:s.st=7
 rotate_left
 · simp only [if_neg h7]
 simp only [if_pos h7]at a⊢;unfold IS.bm at a⊢;have l:(s.app y).ds=s.ds:=rfl;rw[l,f]
 have k:(aK s.ds s.x).2.2≠5:=by
  intro e;rw[af (by rw[e];simp)]at a;exact a e
 rw[uN _ _ _ k];by_cases e:(aK s.ds s.x).2.2≠0
 · rw[af e,af e]
 have hp:=jn (bN.1 e);rw[aa e]at a;rw[aa e,aa e,iv ω];by_cases d:29<(aK s.ds s.x).1
 · rw[af d,af d]
 rw[aa d]at a;rw[aa d,aa d];by_cases i:(s.x.drop (aK s.ds s.x).2.1).length<dE (aK s.ds s.x).1.toNat
 · rw[af i]at a;simp at a
 rw[aa i,aa (by rw[b];omega),nX ω,iv ω];unfold IS.text;have w:(s.app y).all=s.all:=rfl;rw[w];split
 · rfl
 rfl
theorem IS.Steps.app (h:IS.Steps s t) (a:y.length%8=0):IS.Steps (s.app y) (t.app y):=by
 induction h with
 | refl=>exact .refl _
 | @tail t h1 h2 ih=>
   have e:=IS.eN (s:=t) (y:=y) (by rw[h2];decide) a;have b:(t.app y).step.2=0:=by rw[e];exact h2
   have h4:=IS.Steps.tail ih b
   rwa [e]at h4
def IS.cap (s:IS) (m:Nat):IS:={ s with rem:=m }
theorem IS.iT (s:IS):s.emit []=(s,0):=by
 unfold IS.emit;rw[List.take_nil,aA,aa σ];rfl
theorem IS.JG (s:IS):∃(t:IS) (b:aj) (e:Int),t.all=s.all/\e≠6/\∀m,(s.cap m).step=if e=0 then(t.cap m).emit b else(t.cap m,e):=by
 unfold IS.step;by_cases z:s.st=0
 · have:∀m,(s.cap m).st=0:=λm=>z;simp only [this,if_true];unfold IS.block;by_cases a:s.x.length<3
   · exact⟨s,[],5,rfl,δ,λm=>af a⟩
   have f:∀m,(s.cap m).x=s.x:=λm=>rfl;simp only [f,if_neg a];by_cases j:num s.x 3/2=0
   · exact⟨{ s with last:=decide (num s.x 3%2=1),kinds:=s.kinds++[((num s.x 3/2:Nat):Int)],x:=lN (s.x.drop 3),st:=1 },[],0,rfl,δ,λm=>by rw[af j,af rfl,IS.iT];rfl⟩
   by_cases g:num s.x 3/2=1
   · exact⟨{ s with last:=decide (num s.x 3%2=1),kinds:=s.kinds++[((num s.x 3/2:Nat):Int)],x:=s.x.drop 3,lt:=im,ds:=iU,st:=6 },[],0,rfl,δ,λm=>by rw[aa j,af g,af rfl,IS.iT];rfl⟩
   by_cases q:num s.x 3/2=2
   · exact⟨{ s with last:=decide (num s.x 3%2=1),kinds:=s.kinds++[((num s.x 3/2:Nat):Int)],x:=s.x.drop 3,st:=3 },[],0,rfl,δ,λm=>by rw[aa j,aa g,af q,af rfl,IS.iT];rfl⟩
   exact⟨{ s with last:=decide (num s.x 3%2=1),kinds:=s.kinds++[((num s.x 3/2:Nat):Int)],x:=s.x.drop 3 },[],2,rfl,δ,λm=>by rw[aa j,aa g,aa q,aa δ];rfl⟩
 have J:∀m,¬(s.cap m).st=0:=λm=>z;simp only [if_neg (J _)];have f:∀m,(s.cap m).x=s.x:=λm=>rfl;by_cases j:s.st=1
 · have:∀m,(s.cap m).st=1:=λm=>j;simp only [this,if_true];unfold IS.size;simp only [f];by_cases a:s.x.length<32
   · exact⟨s,[],5,rfl,δ,λm=>af a⟩
   simp only [if_neg a];by_cases g:num s.x 32%65536+num s.x 32/65536=65535
   · exact⟨{ s with x:=s.x.drop 32,left:=num s.x 32%65536,st:=2 },[],0,rfl,δ,λm=>by rw[af g,af rfl,IS.iT];rfl⟩
   exact⟨{ s with x:=s.x.drop 32 },[],2,rfl,δ,λm=>by rw[aa g,aa δ];rfl⟩
 have I:∀m,¬(s.cap m).st=1:=λm=>j;simp only [if_neg (I _)]
 have y:∀s:IS,∀m,(s.cap m).over=s.over.cap m:=λs m=>by
  unfold IS.over;have:(s.cap m).last=s.last:=rfl;rw[this];split <;> rfl
 have k:∀s:IS,s.over.all=s.all:=λs=>by unfold IS.over;split <;> rfl
 by_cases g:s.st=2
 · have:∀m,(s.cap m).st=2:=λm=>g;simp only [this,if_true];unfold IS.stored;have v:∀m,(s.cap m).left=s.left:=λm=>rfl;simp only [f,v];by_cases v:s.left=0
   · exact⟨s.over,[],0,k s,δ,λm=>by rw[af v,af rfl,IS.iT,y]⟩
   simp only [if_neg v];by_cases a:s.x.length<8
   · exact⟨s,[],5,rfl,δ,λm=>af a⟩
   exact⟨{ s with x:=s.x.drop 8,left:=s.left-1 },[(num s.x 8:Int)],0,rfl,δ,λm=>by rw[aa a,af rfl];rfl⟩
 have H:∀m,¬(s.cap m).st=2:=λm=>g;simp only [if_neg (H _)];by_cases q:s.st=3
 · have:∀m,(s.cap m).st=3:=λm=>q;simp only [this,if_true];unfold IS.sizes;simp only [f];by_cases a:s.x.length<14
   · exact⟨s,[],5,rfl,δ,λm=>af a⟩
   simp only [if_neg a];by_cases h4:286<num s.x 14%32+257\/30<num s.x 14/32%32+1
   · exact⟨{ s with x:=s.x.drop 14 },[],2,rfl,δ,λm=>by rw[af h4,aa δ];rfl⟩
   exact⟨{ s with x:=s.x.drop 14,c0:=num s.x 14%32+257,c1:=num s.x 14/32%32+1,c2:=num s.x 14/1024+4,lens:=[],st:=4 },[],0,rfl,δ,λm=>by rw[aa h4,af rfl,IS.iT];rfl⟩
 have G:∀m,¬(s.cap m).st=3:=λm=>q;simp only [if_neg (G _)];have u:∀m,(s.cap m).lens=s.lens:=λm=>rfl;by_cases h4:s.st=4
 · have:∀m,(s.cap m).st=4:=λm=>h4;simp only [this,if_true];unfold IS.heads;have w:∀m,(s.cap m).c2=s.c2:=λm=>rfl;simp only [f,u,w];by_cases c:s.lens.length<s.c2
   · simp only [if_pos c];by_cases a:s.x.length<3
     · exact⟨s,[],5,rfl,δ,λm=>af a⟩
     exact⟨{ s with x:=s.x.drop 3,lens:=s.lens++[(num s.x 3:Int)] },[],0,rfl,δ,λm=>by rw[aa a,af rfl,IS.iT];rfl⟩
   simp only [if_neg c];by_cases h5:bg (iK s.lens) 7≠0\/gU s.lens=true
   · exact⟨s,[],3,rfl,δ,λm=>af h5⟩
   exact⟨{ s with hd:=iK s.lens,lens:=[],st:=5 },[],0,rfl,δ,λm=>by rw[aa h5,af rfl,IS.iT];rfl⟩
 have F:∀m,¬(s.cap m).st=4:=λm=>h4;simp only [if_neg (F _)];by_cases h5:s.st=5
 · have:∀m,(s.cap m).st=5:=λm=>h5;simp only [this,if_true];unfold IS.lengths;have o:∀m,(s.cap m).c0=s.c0:=λm=>rfl;have n:∀m,(s.cap m).c1=s.c1:=λm=>rfl;have l:∀m,(s.cap m).hd=s.hd:=λm=>rfl;simp only [u,o,n];by_cases c:s.lens.length<s.c0+s.c1
   · simp only [if_pos c];unfold IS.length;simp only [l,f,u];by_cases e:(aK s.hd s.x).2.2≠0
     · refine⟨s,[],(aK s.hd s.x).2.2,rfl, ?_,λm=>by rw[af e,aa e]⟩;rcases eU s.hd s.x with h | h | h <;> omega
     simp only [if_neg e];by_cases h6:(aK s.hd s.x).1<16
     · exact⟨{ s with x:=s.x.drop (aK s.hd s.x).2.1,lens:=s.lens++[(aK s.hd s.x).1] },[],0,rfl,δ,λm=>by rw[af h6,af rfl,IS.iT];rfl⟩
     simp only [if_neg h6];by_cases h7:(aK s.hd s.x).1=16/\s.lens.length=0
     · exact⟨s,[],2,rfl,δ,λm=>af h7⟩
     simp only [if_neg h7];by_cases i:(s.x.drop (aK s.hd s.x).2.1).length<IS.rW (aK s.hd s.x).1
     · exact⟨s,[],5,rfl,δ,λm=>af i⟩
     simp only [if_neg i];unfold IS.kG;simp only [u,o,n];by_cases p:s.c0+s.c1<s.lens.length+(IS.rB (aK s.hd s.x).1+num (s.x.drop (aK s.hd s.x).2.1) (IS.rW (aK s.hd s.x).1))
     · exact⟨{ s with x:=(s.x.drop (aK s.hd s.x).2.1).drop (IS.rW (aK s.hd s.x).1) },[],2,rfl,δ,λm=>by rw[af p,aa δ];rfl⟩
     exact⟨{ s with x:=(s.x.drop (aK s.hd s.x).2.1).drop (IS.rW (aK s.hd s.x).1),lens:=s.lens++List.replicate (IS.rB (aK s.hd s.x).1+num (s.x.drop (aK s.hd s.x).2.1) (IS.rW (aK s.hd s.x).1)) (if(aK s.hd s.x).1=16 then ix s.lens (s.lens.length-1)else 0) },[],0,rfl,δ,λm=>by rw[aa p,af rfl,IS.iT];rfl⟩
   simp only [if_neg c];by_cases h6:bg (s.lens.take s.c0) 15≠0\/bg (s.lens.drop s.c0) 15≠0\/ix s.lens 256=0
   · exact⟨s,[],3,rfl,δ,λm=>af h6⟩
   exact⟨{ s with lt:=s.lens.take s.c0,ds:=s.lens.drop s.c0,st:=6 },[],0,rfl,δ,λm=>by rw[aa h6,af rfl,IS.iT];rfl⟩
 have E:∀m,¬(s.cap m).st=5:=λm=>h5;simp only [if_neg (E _)];by_cases h6:s.st=6
 · have:∀m,(s.cap m).st=6:=λm=>h6;simp only [this,if_true];unfold IS.token;have l:∀m,(s.cap m).lt=s.lt:=λm=>rfl;simp only [l,f];by_cases e:(aK s.lt s.x).2.2≠0
   · refine⟨s,[],(aK s.lt s.x).2.2,rfl, ?_,λm=>by rw[af e,aa e]⟩;rcases eU s.lt s.x with h | h | h <;> omega
   simp only [if_neg e];by_cases h7:(aK s.lt s.x).1<256
   · exact⟨{ s with x:=s.x.drop (aK s.lt s.x).2.1,au:=s.au++[cy.mk (aK s.lt s.x).1 0 0] },[(aK s.lt s.x).1],0,rfl,δ,λm=>by rw[af h7,af rfl];rfl⟩
   simp only [if_neg h7];by_cases i:(aK s.lt s.x).1=256
   · exact⟨({ s with x:=s.x.drop (aK s.lt s.x).2.1 }:IS).over,[],0,k _,δ,λm=>by rw[af i,af rfl,IS.iT,<-y];rfl⟩
   simp only [if_neg i];by_cases p:285<(aK s.lt s.x).1
   · exact⟨s,[],3,rfl,δ,λm=>af p⟩
   simp only [if_neg p];by_cases d:(s.x.drop (aK s.lt s.x).2.1).length<lE ((aK s.lt s.x).1-257).toNat
   · exact⟨s,[],5,rfl,δ,λm=>af d⟩
   exact⟨{ s with x:=(s.x.drop (aK s.lt s.x).2.1).drop (lE ((aK s.lt s.x).1-257).toNat),len:=lB ((aK s.lt s.x).1-257).toNat+num (s.x.drop (aK s.lt s.x).2.1) (lE ((aK s.lt s.x).1-257).toNat),st:=7 },[],0,rfl,δ,λm=>by rw[aa d,af rfl,IS.iT];rfl⟩
 have C:∀m,¬(s.cap m).st=6:=λm=>h6;simp only [if_neg (C _)];by_cases h7:s.st=7
 rotate_left
 · have B:∀m,¬(s.cap m).st=7:=λm=>h7;simp only [if_neg (B _)];exact⟨s,[],8,rfl,δ,λm=>rfl⟩
 have:∀m,(s.cap m).st=7:=λm=>h7;simp only [this,if_true];unfold IS.bm;have l:∀m,(s.cap m).ds=s.ds:=λm=>rfl;simp only [l,f];by_cases e:(aK s.ds s.x).2.2≠0
 · refine⟨s,[],(aK s.ds s.x).2.2,rfl, ?_,λm=>by rw[af e,aa e]⟩;rcases eU s.ds s.x with h | h | h <;> omega
 simp only [if_neg e];by_cases i:29<(aK s.ds s.x).1
 · exact⟨s,[],3,rfl,δ,λm=>af i⟩
 simp only [if_neg i];by_cases d:(s.x.drop (aK s.ds s.x).2.1).length<dE (aK s.ds s.x).1.toNat
 · exact⟨s,[],5,rfl,δ,λm=>af d⟩
 simp only [if_neg d];unfold IS.text;have A:∀m,(s.cap m).all=s.all:=λm=>rfl;simp only [A];generalize (s.x.drop (aK s.ds s.x).2.1).drop (dE (aK s.ds s.x).1.toNat)=x1;generalize dB (aK s.ds s.x).1.toNat+num (s.x.drop (aK s.ds s.x).2.1) (dE (aK s.ds s.x).1.toNat)=D;by_cases r:s.all.length<D
 · exact⟨s,[],3,rfl,δ,λm=>af r⟩
 exact⟨{ s with x:=x1,st:=6,au:=s.au++[cy.mk 0 s.len D] },again s.all D s.len,0,rfl,δ,λm=>by rw[aa r,af rfl];rfl⟩
theorem IS.BQ (s:IS):∃b,s.step.1.all=s.all++b/\s.step.1.rem+b.length=s.rem:=by
 obtain⟨t,b,e,c,f,d⟩ :=IS.JG s;have h4:=d s.rem;have h5:s.cap s.rem=s:=rfl;rw[h5]at h4;by_cases a:e=0
 · rw[af a]at h4;rw[h4];refine⟨b.take s.rem, ?_, ?_⟩
   · show t.all++_=_;rw[c];rfl
   show s.rem-b.length+(b.take s.rem).length=s.rem;rw[aD];omega
 rw[aa a]at h4;rw[h4];exact⟨[],by rw[aA];exact c,rfl⟩
theorem IS.Steps.out (h:IS.Steps s t):∃b,t.all=s.all++b/\t.rem+b.length=s.rem:=by
 induction h with
 | refl=>exact⟨[],σ,rfl⟩
 | @tail t h1 h2 ih=>
   obtain⟨b,a,h4⟩ :=ih;obtain⟨c,h5,h6⟩ :=IS.BQ t;exact⟨b++c,by rw[h5,a,av],by rw[ag];omega⟩
theorem IS.NA (s:IS):∃b,s.fin.1.all=s.all++b/\s.fin.1.rem+b.length=s.rem:=by
 obtain⟨t,e,d⟩ :=IS.mH s;obtain⟨b,a,h4⟩ :=e.out;obtain⟨c,h5,h6⟩ :=IS.BQ t;rw[<-d];exact⟨b++c,by rw[h5,a,av],by rw[ag];omega⟩
theorem IS.Xi (h:s.step.2≠6) (f:s.step.1.all=s.all++b):
  (b.length<=m->(s.cap m).step=(s.step.1.cap (m-b.length),s.step.2))/\(m<b.length->(s.cap m).step.2=6/\(s.cap m).step.1.all=s.all++b.take m):=by
 obtain⟨t,a,e,j,q,k⟩ :=IS.JG s;have h4:=k s.rem;have h5:s.cap s.rem=s:=rfl;rw[h5]at h4;rw[k m,h4];by_cases d:e=0
 rotate_left
 · rw[aa d]at h4;rw[aa d,aa d];rw[h4]at f
   have l:b=[]:=by
    have:t.all=s.all++b:=f;rw[j]at this;have h6:s.all.length=s.all.length+b.length:=by conv=>lhs;rw[this,ag]
    exact List.length_eq_zero_iff.1 ω
   subst l;exact⟨λ_=>rfl,λc=>by simp at c⟩
 subst d;rw[af rfl]at h4⊢;rw[h4]at h f
 have i:¬s.rem<a.length:=by
  intro g
  apply h
  show(if s.rem<a.length then(6:Int)else 0)=6;rw[af g]
 have n:a=b:=by
  have:t.all++a.take s.rem=s.all++b:=f;rw[j,aC ω]at this;exact List.append_cancel_left this
 subst n;refine⟨λc=> ?_,λc=> ⟨?_, ?_⟩⟩
 · rw[af rfl];unfold IS.emit;have p:(t.cap m).rem=m:=rfl;have o:(t.cap s.rem).rem=s.rem:=rfl;rw[p,o,aa ω,aa i,aC ω,aC ω];rfl
 · show(if m<a.length then(6:Int)else 0)=6;rw[af c]
 show t.all++a.take m=_;rw[j]
theorem IS.Steps.cap (h:IS.Steps s t):∀b,t.all=s.all++b->∀m,(b.length<=m->IS.Steps (s.cap m) (t.cap (m-b.length)))/\(m<b.length->(s.cap m).fin.2=6/\(s.cap m).fin.1.all=s.all++b.take m):=by
 induction h with
 | refl=>
   intro b f m
   obtain rfl:b=[]:=by
    have h6:=aN List.length f;rw[ag]at h6;exact List.length_eq_zero_iff.1 ω
   exact⟨λ_=> .refl _,λa=>by simp at a⟩
 | @tail t h1 h2 ih=>
   intro b f m;obtain⟨c,j,h4⟩ :=h1.out;obtain⟨d,h5,h6⟩ :=IS.BQ t
   have i:b=c++d:=by
    rw[h5,j,av]at f;exact(List.append_cancel_left f).symm
   subst i;rw[ag];obtain⟨o,n⟩ :=ih c j m;by_cases l:c.length<=m
   · have s1:=o l;obtain⟨b1,b2⟩ :=IS.Xi (s:=t) (b:=d) (m:=m-c.length) (by rw[h2];decide) h5;refine⟨λa=> ?_,λa=> ?_⟩
     · have e:=b1 ω;have:=IS.Steps.tail s1 (by rw[e];exact h2)
       rwa [e,show m-c.length-d.length=m-(c.length+d.length) by omega]at this
     obtain⟨g,k⟩ :=b2 ω;rw[<-s1.mG,IS.iA (by rw[g];decide)];refine⟨g, ?_⟩;rw[k,j,av,List.take_append,aC l]
   refine⟨λa=>ω,λa=> ?_⟩;obtain⟨g,k⟩ :=n ω;exact⟨g,by rw[k,cU ω]⟩
end
structure IS.Ok (s:IS):Prop where
 bit:dO s.x
 even:s.st=1\/s.st=2\/s.st=8->s.x.length%8=0
 cc:s.st=4\/s.st=5->257<=s.c0/\s.c0<=286/\1<=s.c1/\s.c1<=30
 h4:s.st=4->s.c2<=19/\s.lens.length<=s.c2/\∀v∈s.lens,0<=v/\v<=7
 h5:s.st=5->s.lens.length<=s.c0+s.c1/\(∀v∈s.lens,0<=v/\v<=15)/\bg s.hd 7=0/\s.hd.length=19
 h6:s.st=6\/s.st=7->bg s.lt 15=0/\bg s.ds 15=0
 h7:s.st=7->3<=s.len/\s.len<=258
 left:s.left<=65535
 jR:∀v∈s.all,0<=v/\v<256
 st8:s.st<=8
section
variable {s t:IS} {x y b:aj} {n m:Nat}
theorem IS.Ok.at0 (a:s.st=0\/s.st=3) (bit:dO s.x) (left:s.left<=65535) (jR:∀v∈s.all,0<=v/\v<256):s.Ok:=
 ⟨bit,λh=>ω,λh=>ω,λh=>ω,λh=>ω,λh=>ω,λh=>ω,left,jR,ω⟩
theorem IS.Ok.at1 (a:s.st=1\/s.st=2\/s.st=8) (bit:dO s.x) (left:s.left<=65535) (jR:∀v∈s.all,0<=v/\v<256) (even:s.x.length%8=0):s.Ok:=
 ⟨bit,λh=>even,λh=>ω,λh=>ω,λh=>ω,λh=>ω,λh=>ω,left,jR,ω⟩
theorem IS.Ok.at4 (a:s.st=4) (bit:dO s.x) (left:s.left<=65535) (jR:∀v∈s.all,0<=v/\v<256) (cc:257<=s.c0/\s.c0<=286/\1<=s.c1/\s.c1<=30)
  (h4:s.c2<=19/\s.lens.length<=s.c2/\∀v∈s.lens,0<=v/\v<=7):s.Ok:=
 ⟨bit,λh=>ω,λh=>cc,λh=>h4,λh=>ω,λh=>ω,λh=>ω,left,jR,ω⟩
theorem IS.Ok.at5 (a:s.st=5) (bit:dO s.x) (left:s.left<=65535) (jR:∀v∈s.all,0<=v/\v<256) (cc:257<=s.c0/\s.c0<=286/\1<=s.c1/\s.c1<=30)
  (h5:s.lens.length<=s.c0+s.c1/\(∀v∈s.lens,0<=v/\v<=15)/\bg s.hd 7=0/\s.hd.length=19):s.Ok:=
 ⟨bit,λh=>ω,λh=>cc,λh=>ω,λh=>h5,λh=>ω,λh=>ω,left,jR,ω⟩
theorem IS.Ok.at6 (a:s.st=6\/s.st=7) (bit:dO s.x) (left:s.left<=65535) (jR:∀v∈s.all,0<=v/\v<256) (h6:bg s.lt 15=0/\bg s.ds 15=0)
  (h7:s.st=7->3<=s.len/\s.len<=258):s.Ok:=
 ⟨bit,λh=>ω,λh=>ω,λh=>ω,λh=>ω,λh=>h6,h7,left,jR,ω⟩
theorem gI {x:aj} (h:dO x) (n:Nat):num x n<2 ^ n:=by
 have c:=kC (h.um n);have b:=gy (show(x.take n).length<=n by simp;omega);have a:((2 ^ n:Nat):Int)=2 ^ n:=σ;unfold num;omega
theorem qW {x:aj} (h:dO x) (n:Nat):((num x n:Nat):Int)=fM (x.take n):=by
 have a:=kC (h.um n);unfold num;omega
theorem dO.lN {x:aj} (h:dO x):dO (lN x):=h.ed _
theorem ng (l:aj):(iK l).length=19:=by simp [iK]
theorem mI:bg im 15=0/\bg iU 15=0:=by decide+kernel
theorem VX {j v:Nat} (a:j<29) (hv:v<2 ^ lE j):3<=lB j+v/\lB j+v<=258:=by
 have:∀j,j<29->3<=lB j/\lB j+2 ^ lE j<=259:=by decide+kernel
 have:=this j a;omega
theorem TD {j v:Nat} (a:j<30) (hv:v<2 ^ dE j):1<=dB j+v/\dB j+v<=32768:=by
 have:∀j,j<30->1<=dB j/\dB j+2 ^ dE j<=32769:=by decide+kernel
 have:=this j a;omega
theorem IS.Ok.over (h:s.Ok):s.over.Ok:=by
 unfold IS.over;split
 · exact .at1 (.inr (.inr rfl)) h.bit.lN h.left h.jR (by show(lN s.x).length%8=0;rw[mX];omega)
 exact .at0 (.inl rfl) h.bit h.left h.jR
theorem IS.Ok.emit (h:s.Ok) {b:aj} (c:∀v∈b,0<=v/\v<256):(s.emit b).1.Ok:=
 ⟨h.bit,h.even,h.cc,h.h4,h.h5,h.h6,h.h7,h.left,λv hv=>by
   rcases aP.1 hv with a | a
   · exact h.jR v a
   exact c v (aO a),h.st8⟩
theorem mi {l x:aj} (a:dO x) (h:¬(aK l x).2.2≠0):∃k n:Nat,aK l x=((k:Int),n,0)/\k<l.length/\1<=n/\n<=15/\n<=x.length:=by
 obtain⟨k,n,c,b,d,h4,h5,h6,h7⟩ :=Wh a (bN.1 h);exact⟨k,n,c,b,h4,h5,h6⟩
theorem Tf {l:aj} (h:∀v∈l,0<=v/\v<256) (D N:Nat):∀v∈again l D N,0<=v/\v<256:=by
 intro v hv;unfold again at hv;obtain⟨i,_,rfl⟩ :=gJ.1 hv;exact Od h _
theorem IS.Ok.step (h:s.Ok) (e:s.step.2=0\/s.step.2=6):s.step.1.Ok:=by
 unfold IS.step at e⊢;by_cases B:s.st=0
 · rw[af B]at e⊢;unfold IS.block at e⊢;by_cases c:s.x.length<3
   · rw[af c]at e;simp at e
   rw[aa c]at e⊢;by_cases a:num s.x 3/2=0
   · rw[af a];exact .at1 (.inl rfl) (h.bit.ed 3).lN h.left h.jR (by show(lN (s.x.drop 3)).length%8=0;rw[mX];omega)
   rw[aa a]at e⊢;by_cases g:num s.x 3/2=1
   · rw[af g];exact .at6 (.inl rfl) (h.bit.ed 3) h.left h.jR mI (λe=>by simp at e)
   rw[aa g]at e⊢;by_cases r:num s.x 3/2=2
   · rw[af r];exact .at0 (.inr rfl) (h.bit.ed 3) h.left h.jR
   rw[aa r]at e;simp at e
 rw[aa B]at e⊢;by_cases a:s.st=1
 · rw[af a]at e⊢;unfold IS.size at e⊢;by_cases c:s.x.length<32
   · rw[af c]at e;simp at e
   rw[aa c]at e⊢;by_cases g:num s.x 32%65536+num s.x 32/65536=65535
   · rw[af g];exact .at1 (.inr (.inl rfl)) (h.bit.ed 32) (by show num s.x 32%65536<=65535;omega) h.jR (by have:=h.even (.inl a);show(s.x.drop 32).length%8=0;rw[az];omega)
   rw[aa g]at e;simp at e
 rw[aa a]at e⊢;by_cases g:s.st=2
 · rw[af g]at e⊢;unfold IS.stored at e⊢;by_cases z:s.left=0
   · rw[af z];exact h.over
   rw[aa z]at e⊢;by_cases c:s.x.length<8
   · rw[af c]at e;simp at e
   rw[aa c];refine IS.Ok.emit (s:={ s with x:=s.x.drop 8,left:=s.left-1 }) (.at1 (.inr (.inl g)) (h.bit.ed 8) (by have:=h.left;show s.left-1<=65535;omega) h.jR (by have:=h.even (.inr (.inl g));show(s.x.drop 8).length%8=0;rw[az];omega)) ?_;intro v hv;simp at hv;subst hv;have:=gI h.bit 8;omega
 rw[aa g]at e⊢;by_cases r:s.st=3
 · rw[af r]at e⊢;unfold IS.sizes at e⊢;by_cases c:s.x.length<14
   · rw[af c]at e;simp at e
   rw[aa c]at e⊢;by_cases h4:286<num s.x 14%32+257\/30<num s.x 14/32%32+1
   · rw[af h4]at e;simp at e
   rw[aa h4];have F:=gI h.bit 14;refine .at4 rfl (h.bit.ed 14) h.left h.jR ?_ ?_
   · show 257<=num s.x 14%32+257/\num s.x 14%32+257<=286/\1<=num s.x 14/32%32+1/\num s.x 14/32%32+1<=30;omega
   refine⟨?_,aF _,λv hv=>by simp at hv⟩;show num s.x 14/1024+4<=19;omega
 rw[aa r]at e⊢;by_cases h4:s.st=4
 · rw[af h4]at e⊢;unfold IS.heads at e⊢;obtain⟨q1,q2,q3⟩ :=h.h4 h4;have d:=h.cc (.inl h4);by_cases o:s.lens.length<s.c2
   · rw[af o]at e⊢;by_cases c:s.x.length<3
     · rw[af c]at e;simp at e
     rw[aa c];refine .at4 h4 (h.bit.ed 3) h.left h.jR d ⟨q1, ?_, ?_⟩
     · show(s.lens++[_]).length<=s.c2;simp;omega
     intro v hv;rcases aP.1 hv with a | a
     · exact q3 v a
     simp at a;subst a;have:=gI h.bit 3;omega
   rw[aa o]at e⊢;by_cases h5:bg (iK s.lens) 7≠0\/gU s.lens=true
   · rw[af h5]at e;simp at e
   rw[aa h5];exact .at5 rfl h.bit h.left h.jR d ⟨aF _,λv hv=>by simp at hv,bN.1 λh6=>h5 (.inl h6),ng _⟩
 rw[aa h4]at e⊢;by_cases h5:s.st=5
 · rw[af h5]at e⊢;unfold IS.lengths at e⊢;obtain⟨q1,q2,q3,q4⟩ :=h.h5 h5;have d:=h.cc (.inr h5);by_cases o:s.lens.length<s.c0+s.c1
   · rw[af o]at e⊢;unfold IS.length at e⊢;by_cases f:(aK s.hd s.x).2.2≠0
     · rw[af f]at e;rcases eU s.hd s.x with h6 | h6 | h6 <;> omega
     rw[aa f]at e⊢;obtain⟨k,n,l,A,y,w,u⟩ :=mi h.bit f;rw[l]at e⊢;simp only at e⊢;by_cases h6:(k:Int)<16
     · rw[af h6];refine .at5 h5 (h.bit.ed _) h.left h.jR d ⟨?_, ?_,q3,q4⟩
       · show(s.lens++[_]).length<=s.c0+s.c1;simp;omega
       intro v hv;rcases aP.1 hv with a | a
       · exact q2 v a
       simp at a;subst a;omega
     rw[aa h6]at e⊢;by_cases h7:(k:Int)=16/\s.lens.length=0
     · rw[af h7]at e;simp at e
     rw[aa h7]at e⊢;by_cases i:(s.x.drop n).length<IS.rW k
     · rw[af i]at e;simp at e
     rw[aa i]at e⊢;unfold IS.kG at e⊢;by_cases q:s.c0+s.c1<s.lens.length+(IS.rB k+num (s.x.drop n) (IS.rW k))
     · rw[af q]at e;simp at e
     rw[aa q];refine .at5 h5 ((h.bit.ed _).ed _) h.left h.jR d ⟨?_, ?_,q3,q4⟩
     · show(s.lens++List.replicate _ _).length<=s.c0+s.c1;rw[ag,aT];omega
     intro v hv;rcases aP.1 hv with a | a
     · exact q2 v a
     rw[gO a];split
     · rename_i b
       unfold ix;have hp:s.lens.length≠0:=λE=>h7 ⟨b,E⟩;rw[aq,br (show s.lens.length-1<s.lens.length by omega)];exact q2 _ (bU _)
     omega
   rw[aa o]at e⊢;by_cases h6:bg (s.lens.take s.c0) 15≠0\/bg (s.lens.drop s.c0) 15≠0\/ix s.lens 256=0
   · rw[af h6]at e;simp at e
   rw[aa h6];exact .at6 (.inl rfl) h.bit h.left h.jR ⟨bN.1 λh7=>h6 (.inl h7),bN.1 λh7=>h6 (.inr (.inl h7))⟩ (λe=>by simp at e)
 rw[aa h5]at e⊢;by_cases h6:s.st=6
 · rw[af h6]at e⊢;unfold IS.token at e⊢;have m:=h.h6 (.inl h6);by_cases f:(aK s.lt s.x).2.2≠0
   · rw[af f]at e;rcases eU s.lt s.x with h6 | h6 | h6 <;> omega
   rw[aa f]at e⊢;obtain⟨k,n,l,A,y,w,u⟩ :=mi h.bit f;rw[l]at e⊢;simp only at e⊢;by_cases h7:(k:Int)<256
   · rw[af h7];refine IS.Ok.emit (s:={ s with x:=s.x.drop n,au:=s.au++[cy.mk (k:Int) 0 0] }) (.at6 (.inl h6) (h.bit.ed _) h.left h.jR m (λe=>by simp [h6]at e)) ?_;intro v hv;simp at hv;subst hv;omega
   rw[aa h7]at e⊢;by_cases i:(k:Int)=256
   · rw[af i];exact IS.Ok.over (s:={ s with x:=s.x.drop n }) (.at6 (.inl h6) (h.bit.ed _) h.left h.jR m (λe=>by simp [h6]at e))
   rw[aa i]at e⊢;by_cases q:285<(k:Int)
   · rw[af q]at e;simp at e
   rw[aa q]at e⊢;obtain⟨j,C⟩ :=ν (((k:Int)-257).toNat);rw[C]at e⊢;by_cases b:(s.x.drop n).length<lE j
   · rw[af b]at e;simp at e
   rw[aa b];exact .at6 (.inr rfl) ((h.bit.ed _).ed _) h.left h.jR m (λ_=>VX ω (gI (h.bit.ed _) _))
 rw[aa h6]at e⊢;by_cases h7:s.st=7
 rotate_left
 · rw[aa h7]at e;simp at e
 rw[af h7]at e⊢;unfold IS.bm at e⊢;have m:=h.h6 (.inr h7);by_cases f:(aK s.ds s.x).2.2≠0
 · rw[af f]at e;rcases eU s.ds s.x with h6 | h6 | h6 <;> omega
 rw[aa f]at e⊢;obtain⟨k,n,l,A,y,w,u⟩ :=mi h.bit f;rw[l]at e⊢;simp only at e⊢;by_cases i:29<(k:Int)
 · rw[af i]at e;simp at e
 rw[aa i]at e⊢;by_cases b:(s.x.drop n).length<dE (k:Int).toNat
 · rw[af b]at e;simp at e
 rw[aa b]at e⊢;unfold IS.text at e⊢;have p:dO ((s.x.drop n).drop (dE (k:Int).toNat)):=(h.bit.ed _).ed _;generalize (s.x.drop n).drop (dE (k:Int).toNat)=x1 at e p⊢;generalize dB (k:Int).toNat+num (s.x.drop n) (dE (k:Int).toNat)=D at e⊢;by_cases t:s.all.length<D
 · rw[af t]at e;simp at e
 rw[aa t];exact IS.Ok.emit (s:={ s with x:=x1,st:=6,au:=s.au++[cy.mk 0 s.len D] }) (.at6 (.inl rfl) p h.left h.jR m (λe=>by simp at e)) (Tf h.jR _ _)
theorem IS.Ok.steps (h:s.Ok) (a:IS.Steps s t):t.Ok:=by
 induction a with
 | refl=>exact h
 | tail _ h2 ih=>exact ih.step (.inl h2)
theorem IS.Ok.start {x:aj} (h:dO x) (m:Nat):(start x m).Ok:= .at0 (.inl rfl) h (aF _) (λv hv=>by simp [Go.Proofs.YtdhmnlpfhfmpfaaGreat.start]at hv)
theorem IS.step_done (h:s.step.2=8):s.step.1=s/\s.st≠0/\s.st≠1/\s.st≠2/\s.st≠3/\s.st≠4/\s.st≠5/\s.st≠6/\s.st≠7:=by
 unfold IS.step at h⊢;have a:∀(s:IS) b,(s.emit b).2≠8:=λs b=>by unfold IS.emit;simp only;split <;> decide
 by_cases f:s.st=0
 · rw[af f]at h;unfold IS.block at h;exfalso;revert h;repeat' split
   all_goals simp
 rw[aa f]at h⊢;by_cases e:s.st=1
 · rw[af e]at h;unfold IS.size at h;exfalso;revert h;repeat' split
   all_goals simp
 rw[aa e]at h⊢;by_cases d:s.st=2
 · rw[af d]at h;unfold IS.stored at h;exfalso;revert h;repeat' split
   · simp
   · simp
   exact a _ _
 rw[aa d]at h⊢;by_cases c:s.st=3
 · rw[af c]at h;unfold IS.sizes at h;exfalso;revert h;repeat' split
   all_goals simp
 rw[aa c]at h⊢;by_cases h4:s.st=4
 · rw[af h4]at h;unfold IS.heads at h;exfalso;revert h;repeat' split
   all_goals simp
 rw[aa h4]at h⊢;by_cases h5:s.st=5
 · rw[af h5]at h;unfold IS.lengths IS.length IS.kG at h;exfalso;have:=eU s.hd s.x;revert h;repeat' split
   all_goals (intro h;simp at h <;> omega)
 rw[aa h5]at h⊢;by_cases h6:s.st=6
 · rw[af h6]at h;unfold IS.token at h;exfalso;have:=eU s.lt s.x;revert h;repeat' split
   all_goals first
    | exact a _ _
    | (intro h;simp at h <;> omega)
 rw[aa h6]at h⊢;by_cases h7:s.st=7
 · rw[af h7]at h;unfold IS.bm IS.text at h;exfalso;have:=eU s.ds s.x;revert h;repeat' split
   all_goals first
    | exact a _ _
    | (intro h;simp at h <;> omega)
 rw[aa h7];exact⟨rfl,f,e,d,c,h4,h5,h6,h7⟩
end
section
variable {s:IS} {B:aj} {j:Nat}
theorem Wk (b:∀x∈B,0<=x/\x<256) (a:j<B.length):((num (rb B (8*j)) 8:Nat):Int)=ix B j:=by
 rw[qW (dO.rb B _)];unfold rb;rw[Hm B a,gL];have:=Od b j;have h:(2:Int) ^ 8=256:=rfl;rw[h];omega
theorem Rz {l:aj} {j K:Nat} (h:j+K<l.length):(l.drop j).take (K+1)=(l.drop j).take K++[ix l (j+K)]:=by
 rw[bb (by rw[az];omega)];congr 1;simp [ix,List.getD_eq_getElem?_getD,List.getElem?_eq_getElem h]
theorem BS (e:∀x∈B,0<=x/\x<256) (a:s.st=2) (b:s.x=rb B (8*j)) (d:j<B.length) (c:s.left≠0):
  s.step={ s with x:=rb B (8*(j+1)),left:=s.left-1 }.emit [ix B j]:=by
 unfold IS.step;rw[aa ω,aa ω,af a];unfold IS.stored;rw[aa c,aa (by rw[b,iw];omega),b,Wk e d,kU,show 8*j+8=8*(j+1) by omega]
theorem ru (e:∀x∈B,0<=x/\x<256) (a:s.st=2) (d:s.x=rb B (8*j)) (K:Nat) (k:K<=s.left) (i:j+K<=B.length) (h:K<=s.rem):
  IS.Steps s { s with x:=rb B (8*(j+K)),left:=s.left-K,all:=s.all++(B.drop j).take K,rem:=s.rem-K }:=by
 induction K with
 | zero=>
   have:({ s with x:=rb B (8*(j+0)),left:=s.left-0,all:=s.all++(B.drop j).take 0,rem:=s.rem-0 }:IS)=s:=by
    rw[jC,<-d,iE,aA];rfl
   rw[this];exact .refl s
 | succ K c=>
   have g:=c ω ω ω;have f:=BS (s:={ s with x:=rb B (8*(j+K)),left:=s.left-K,all:=s.all++(B.drop j).take K,rem:=s.rem-K }) e a rfl ω (by show s.left-K≠0;omega)
   have b:IS.step { s with x:=rb B (8*(j+K)),left:=s.left-K,all:=s.all++(B.drop j).take K,rem:=s.rem-K }=({ s with x:=rb B (8*(j+(K+1))),left:=s.left-(K+1),all:=s.all++(B.drop j).take (K+1),rem:=s.rem-(K+1) },0):=by
    rw[f];unfold IS.emit;simp only;rw[aa ξ,aC (l:=[ix B (j+K)]) ξ,Rz ω,av,show s.left-K-1=s.left-(K+1) by omega,show s.rem-K - [ix B (j+K)].length=s.rem-(K+1) by simp;omega];rfl
   have h4:=IS.Steps.tail g (by rw[b])
   rwa [b]at h4
theorem MO (b:∀x∈B,0<=x/\x<256) (a:s.st=2) (e:s.x=rb B (8*j)) (K:Nat) (i:K<=s.left) (h:j+K<=B.length) (g:s.rem<K):
  s.fin.2=6/\s.fin.1.all=s.all++(B.drop j).take s.rem:=by
 have f:=ru b a e s.rem ω ω (ai _);have d:=BS (s:={ s with x:=rb B (8*(j+s.rem)),left:=s.left-s.rem,all:=s.all++(B.drop j).take s.rem,rem:=s.rem-s.rem }) b a rfl ω (by show s.left-s.rem≠0;omega)
 have c:(IS.step { s with x:=rb B (8*(j+s.rem)),left:=s.left-s.rem,all:=s.all++(B.drop j).take s.rem,rem:=s.rem-s.rem }).2=6:=by
  rw[d];unfold IS.emit;simp
 rw[<-f.mG,IS.iA (by rw[c];decide)];refine⟨c, ?_⟩;rw[d];unfold IS.emit;simp
end
section
variable {s:IS} {y pad B:aj}
theorem sT {x z:aj} {n:Nat} (h:x.length=n):num (x++z) n=(fM x).toNat:=by
 rw[nX ω];unfold num;rw[aC ω]
theorem Th {R:aj} (hp:pad.length<8) (a:R.length%8=0):lN (pad++R)=R:=by
 unfold lN;rw[ag,show(pad.length+R.length)%8=pad.length by omega,gC]
theorem lX {a R:aj} {n:Nat} (h:a.length=n):(a++R).drop n=R:=by subst h;exact gC
theorem X9 (n:Nat) (h:n<=65535) (z:aj):num (dw n 16++dw (65535-n) 16++z) 32=n+65536*(65535-n):=by
 rw[sT (by rw[ag,aR,aR]),jc,aR,gL,gL];have e:(2:Int) ^ 16=65536:=δ;rw[e];omega
theorem I1 (a:y.length%8=0) (b:dO y):gK (ke y)=y:=by
 have h:=YO b;have:rest y=[]:=aG (by rw[je];exact a);rw[this,aA]at h;exact h
theorem G6 (d:s.st=0) {h:Int} (e:h=0\/h=1) (b:s.x=[h,0,0]++(pad++(dw B.length 16++dw (65535-B.length) 16++(gK B++y)))) (hp:pad.length<8) (q:y.length%8=0) (k:dO y) (w:∀x∈B,0<=x/\x<256) (c:B.length<=65535) (t:B.length<=s.rem):
  IS.Steps s ({ s with last:=decide (h=1),kinds:=s.kinds++[0],left:=0,all:=s.all++B,rem:=s.rem-B.length,x:=y,st:=2 }:IS).over:=by
 have u:num s.x 3=h.toNat:=by
  rw[b,sT (x:=[h,0,0]) (n:=3) rfl];rcases e with rfl | rfl <;> rfl
 have yv:s.x.drop 3=pad++(dw B.length 16++dw (65535-B.length) 16++(gK B++y)):=by rw[b];rfl
 have v:(dw B.length 16++dw (65535-B.length) 16++(gK B++y)).length=32+(8*B.length+y.length):=by
  rw[ag,ag,ag,aR,aR,eT]
 have p:s.step=({ s with last:=decide (h=1),kinds:=s.kinds++[0],x:=dw B.length 16++dw (65535-B.length) 16++(gK B++y),st:=1 },0):=by
  unfold IS.step;rw[af d];unfold IS.block;rw[aa (by rw[b,ag];simp),u,af (by rcases e with rfl | rfl <;> rfl),yv,Th hp ω];rcases e with rfl | rfl <;> rfl
 have o:({ s with last:=decide (h=1),kinds:=s.kinds++[0],x:=dw B.length 16++dw (65535-B.length) 16++(gK B++y),st:=1 }:IS).step=({ s with last:=decide (h=1),kinds:=s.kinds++[0],x:=gK B++y,left:=B.length,st:=2 },0):=by
  unfold IS.step;rw[aa σ,af rfl];unfold IS.size;simp only;rw[aa (by rw[v];omega),X9 _ c,af ω,lX (by rw[ag,aR,aR])];congr 2;omega
 have f:∀x∈B++ke y,0<=x/\x<256:=λx b=>by
  rcases aP.1 b with i | i
  · exact w x i
  exact Tq k x i
 have a:gK (B++ke y)=gK B++y:=by rw[uq,I1 q k]
 have l:=ru (s:={ s with last:=decide (h=1),kinds:=s.kinds++[0],x:=gK B++y,left:=B.length,st:=2 }) (B:=B++ke y) (j:=0) f rfl (by show gK B++y=(gK (B++ke y)).drop 0;rw[a];rfl) B.length (ai _) (by rw[ag];omega) t
 have r:rb (B++ke y) (8*(0+B.length))=y:=by
  unfold rb;rw[a,bS];exact lX (by rw[eT])
 rw[r,iC,gD]at l
 have m:({ s with last:=decide (h=1),kinds:=s.kinds++[0],left:=0,all:=s.all++B,rem:=s.rem-B.length,x:=y,st:=2 }:IS).step=(({ s with last:=decide (h=1),kinds:=s.kinds++[0],left:=0,all:=s.all++B,rem:=s.rem-B.length,x:=y,st:=2 }:IS).over,0):=by
  unfold IS.step;rw[aa σ,aa σ,af rfl];unfold IS.stored;rw[af rfl]
 have s1:=IS.Steps.one (s:=s) (by rw[p]);rw[p]at s1;have s2:=s1.tail (by rw[o]);rw[o]at s2
 have g:IS.Steps { s with last:=decide (h=1),kinds:=s.kinds++[0],x:=gK B++y,left:=B.length,st:=2 } { s with last:=decide (h=1),kinds:=s.kinds++[0],left:=0,all:=s.all++B,rem:=s.rem-B.length,x:=y,st:=2 }:=by
  have:=l;simp only [Nat.sub_self]at this;exact this
 have s4:=(s2.trans g).tail (by rw[m]);rw[m]at s4;exact s4
end
def wN (lit bm:aj) (t:cy):Prop:=if t.len=0 then 1<=ix lit t.lit.toNat else 1<=ix lit (257+jm t.len)/\1<=ix bm (fj t.bm)
structure Cv (t:IS) (lit bm:aj) (last:Bool) (x all:aj) (rem:Nat) (kinds stops:aj) (au:List cy):Prop where
 st:t.st=6
 lt:t.lt=lit
 ds:t.ds=bm
 last:t.last=last
 x:t.x=x
 all:t.all=all
 rem:t.rem=rem
 kinds:t.kinds=kinds
 stops:t.stops=stops
 au:t.au=au
theorem Gb {l:aj} {s:Nat} (h:1<=ix l s):s<l.length:=by
 rcases aV s l.length with a | a
 · exact a
 have:ix l s=0:=by unfold ix;rw[aq,bw a];rfl
 omega
theorem tL {l:aj} (c:bg l 15=0) {s:Nat} (h:1<=ix l s) (z:aj):aK l (cR l s++z)=((s:Int),(ix l s).toNat,0)/\(cR l s++z).drop (ix l s).toNat=z:=by
 obtain⟨c1,c2,d⟩ :=ln c;have b:=Gb h;have e:=c2 s b;have a:=fY l s;refine⟨JO (N:=(ix l s).toNat) _ ω ω ω b d ?_ ?_, ?_⟩
 · rw[<-a];exact gD
 · rw[ag,a];omega
 rw[<-a];exact gC
section
variable {t:IS} {lit bm:aj} {last:Bool} {x y all:aj} {rem:Nat} {kinds stops:aj} {au:List cy}
theorem IS.Xg (h:t.st=6):t.step=t.token:=by
 unfold IS.step;rw[aa ω,aa ω,aa ω,aa ω,aa ω,aa ω,af h]
theorem IS.a8t (h:t.st=7):t.step=t.bm:=by
 unfold IS.step;rw[aa ω,aa ω,aa ω,aa ω,aa ω,aa ω,aa ω,af h]
theorem RD {k:cy} {m:aj} (h:Cv t lit bm last (tv lit bm k++y) all rem kinds stops au) (R:bg lit 15=0) (qx:bg bm 15=0) (hl:lit.length<=288) (f:cF k) (P:0<=k.lit/\k.lit<256) (O:wN lit bm k) (a:step all k=(0,m)) (p:m.length<=all.length+rem):
  ∃M,IS.Steps t M/\Cv M lit bm last y m (rem-(m.length-all.length)) kinds stops (au++[k]):=by
 obtain⟨J,N,D⟩ :=k;obtain⟨d,rfl⟩ :∃d:Nat,J=(d:Int):= ⟨J.toNat,by have c:0<=J:=P.1;omega⟩;have oJ:d<256:=by have c:(d:Int)<256:=P.2;omega
 unfold step at a;rw[aa (by simpa using f)]at a;by_cases hN:N=0
 · subst hN;have hD:D=0:=by unfold cF at f;rw[af rfl]at f;exact f
   subst hD;split at a
   · simp at a
   rename_i lF
   have I:all++[(d:Int)]=m:=by simpa using a
   subst I;have g:t.x=cR lit d++y:=by rw[h.x];rfl
   have F:1<=ix lit d:=by have c:=O;unfold wN at c;rw[af rfl]at c;exact c
   obtain⟨C,B⟩ :=tL R F y
   have l:t.step=({ t with x:=y,au:=t.au++[cy.mk (d:Int) 0 0],all:=t.all++[(d:Int)].take t.rem,rem:=t.rem-1 },if t.rem<1 then 6 else 0):=by
    rw[IS.Xg h.st];unfold IS.token;rw[h.lt,g,C];simp only;rw[aa δ,af ω,B];rfl
   have G:1<=t.rem:=by rw[h.rem];rw[ag,cN]at p;omega
   rw[aa ω]at l;have c:=IS.Steps.one (s:=t) (by rw[l]);rw[l]at c;refine⟨_,c, ⟨h.st,h.lt,h.ds,h.last,rfl, ?_, ?_,h.kinds,h.stops, ?_⟩⟩
   · show t.all++[(d:Int)].take t.rem=_;rw[h.all,aC (by simpa using G)]
   · show t.rem-1=_;rw[h.rem,ag,cN];omega
   show t.au++_=_;rw[h.au]
 obtain⟨⟨u,e⟩, ⟨d1,d2⟩,Z,W⟩ :=tz f hN;replace u:3<=N:=u;replace e:N<=258:=e;replace d1:1<=D:=d1;replace d2:D<=32768:=d2;have E:(d:Int)=0:=by unfold cF at f;rw[aa hN]at f;exact f.1
 rw[E]at a h⊢;split at a
 · simp at a
 rename_i lF
 try rw[aa hN]at a
 split at a
 · simp at a
 rename_i Q
 have I:all++again all D.toNat N.toNat=m:=by simpa using a
 subst I;have Q:¬(all.length:Int)<D:=Q;have A:=(mN u).a2c e;have z:=(mN u).2.1;have w:=(kY d1).a2b d2;have v:=(kY d1).2.1;have Va:jm N<=28:=Z;have H:fj D<=29:=W;obtain⟨o,n⟩ :1<=ix lit (257+jm N)/\1<=ix bm (fj D):=by have c:=O;unfold wN at c;rw[aa hN]at c;exact c
 have g:t.x=cR lit (257+jm N)++(dw (N-((lB (jm N):Nat):Int)) (lE (jm N))++(cR bm (fj D)++(dw (D-((dB (fj D):Nat):Int)) (dE (fj D))++y))):=by
  rw[h.x];unfold tv;rw[aa hN];simp only [List.append_assoc]
 obtain⟨j,hj⟩ :=ν (jm N);obtain⟨q,hq⟩ :=ν (fj D);rw[hj]at A z Va o g;rw[hq]at w v H n g;obtain⟨V,hV⟩ :∃V:Nat,N-((lB j:Nat):Int)=(V:Int):= ⟨(N-((lB j:Nat):Int)).toNat,ω⟩;obtain⟨U,hU⟩ :∃U:Nat,D-((dB q:Nat):Int)=(U:Int):= ⟨(D-((dB q:Nat):Int)).toNat,ω⟩;rw[hV]at A g;rw[hU]at w g;obtain⟨C,B⟩ :=tL R o (dw (V:Int) (lE j)++(cR bm q++(dw (U:Int) (dE q)++y)))
 have X:num (dw (V:Int) (lE j)++(cR bm q++(dw (U:Int) (dE q)++y))) (lE j)=V:=by
  rw[sT (aR _ _),gL,bz ω (by exact_mod_cast A)];rfl
 have l:t.step=({ t with x:=cR bm q++(dw (U:Int) (dE q)++y),len:=lB j+V,st:=7 },0):=by
  rw[IS.Xg h.st];unfold IS.token;rw[h.lt,g,C];simp only;rw[aa δ,aa ω,aa ω,aa ω,B,show(((257+j:Nat):Int)-257).toNat=j by omega,aa (by rw[ag,aR];omega),X,lX (aR _ _)]
 obtain⟨s2,i⟩ :∃s2:IS,s2={ t with x:=cR bm q++(dw (U:Int) (dE q)++y),len:=lB j+V,st:=7 }:= ⟨_,rfl⟩;rw[<-i]at l
 have a2:s2.st=7/\s2.lt=lit/\s2.ds=bm/\s2.last=last/\s2.x=cR bm q++(dw (U:Int) (dE q)++y)/\s2.len=lB j+V/\s2.all=all/\s2.rem=rem/\s2.kinds=kinds/\s2.stops=stops/\s2.au=au:=by
  rw[i];exact⟨rfl,h.lt,h.ds,h.last,rfl,rfl,h.all,h.rem,h.kinds,h.stops,h.au⟩
 clear i;obtain⟨b1,b2,b3,b4,b5,b6,b7,b8,b9,rR,mA⟩ :=a2;obtain⟨m1,m2⟩ :=tL qx n (dw (U:Int) (dE q)++y)
 have Y:num (dw (U:Int) (dE q)++y) (dE q)=U:=by
  rw[sT (aR _ _),gL,bz ω (by exact_mod_cast w)];rfl
 have b:(again all (dB q+U) (lB j+V)).length=lB j+V:=cK _ _ _;have S:N.toNat=lB j+V:=ω;have r:D.toNat=dB q+U:=ω;rw[ag,S,r,b]at p
 have T:s2.step=({ s2 with x:=y,st:=6,au:=s2.au++[cy.mk 0 N D],all:=all++again all (dB q+U) (lB j+V),rem:=rem-(lB j+V) },0):=by
  rw[IS.a8t b1];unfold IS.bm;rw[b3,b5,m1];simp only;rw[aa δ,aa ω,m2,show((q:Int)).toNat=q by omega,aa (by rw[ag,aR];omega),Y,lX (aR _ _)];unfold IS.text;rw[aa (by rw[b7];omega)];unfold IS.emit;simp only;rw[b7,b8,b6,b,aa ω,aC (by rw[b];omega),show((lB j+V:Nat):Int)=N by omega,show((dB q+U:Nat):Int)=D by omega,b3]
 have L:=IS.Steps.one (s:=t) (by rw[l]);rw[l]at L;have K:=L.tail (by rw[T]);rw[T]at K;rw[S,r];refine⟨_,K, ⟨rfl,b2,b3,b4,rfl,rfl, ?_,b9,rR, ?_⟩⟩
 · show rem-(lB j+V)=_;rw[ag,b];omega
 show s2.au++_=_;rw[mA]
theorem C4 (g:bg lit 15=0) (i:bg bm 15=0) (f:lit.length<=288):∀(l:List cy) (t:IS) (all nH:aj) (rem:Nat) (au:List cy),Cv t lit bm last (iW lit bm l++y) all rem kinds stops au->(∀k∈l,cF k/\(0<=k.lit/\k.lit<256)/\wN lit bm k)->expand all l=(0,nH)->nH.length<=all.length+rem->
  ∃d,IS.Steps t d/\Cv d lit bm last y nH (rem-(nH.length-all.length)) kinds stops (au++l)
 | [],t,all,nH,rem,au,h,_,he,_=>by
   have e:all=nH:=by simpa [expand] using he
   subst e;exact⟨t, .refl t,by rw[aA,dG,Nat.sub_zero];exact h⟩
 | k::l,t,all,nH,rem,au,h,hk,he,hr=>by
   rw[jV]at he;obtain⟨p,o,n⟩ :=hk k aH;by_cases a:(step all k).1=0
   rotate_left
   · rw[aa a]at he;rw[he]at a;exact absurd rfl a
   rw[af a]at he;have v:=Xj a;have b:step all k=(0,(step all k).2):=by rw[<-a]
   have s:(step all k).2.length<=nH.length:=by
    obtain⟨z,hz⟩ :=tH (out:=(step all k).2) (l:=l) (by rw[he]);rw[he]at hz;rw[show nH=(step all k).2++z from hz,ag];omega
   have h':Cv t lit bm last (tv lit bm k++(iW lit bm l++y)) all rem kinds stops au:=by
    have:iW lit bm (k::l)++y=tv lit bm k++(iW lit bm l++y):=by
     show(tv lit bm k++iW lit bm l)++y=_;rw[av]
    rw[<-this];exact h
   obtain⟨m,s1,u⟩ :=RD h' g i f p o n b ω;obtain⟨j,s2,c⟩ :=C4 g i f l m _ nH _ _ u (λq r=>hk q (aI _ r)) he ω;refine⟨j,s1.trans s2, ?_⟩;rw[av]at c;have e:rem-((step all k).2.length-all.length)-(nH.length-(step all k).2.length)=rem-(nH.length-all.length):=ω;rw[e]at c;exact c
theorem CY {l:List cy} {a:aj} (h:Cv t lit bm last (kr lit bm l++y) all rem kinds stops au) (g:bg lit 15=0) (q:bg bm 15=0) (n:lit.length<=288) (d:1<=ix lit 256) (o:∀k∈l,cF k/\(0<=k.lit/\k.lit<256)/\wN lit bm k) (p:expand all l=(0,a)) (m:a.length<=all.length+rem):
  ∃f,IS.Steps t ({ f with x:=y }:IS).over/\Cv f lit bm last (cR lit 256++y) a (rem-(a.length-all.length)) kinds stops (au++l):=by
 have h':Cv t lit bm last (iW lit bm l++(cR lit 256++y)) all rem kinds stops au:=by
  have:kr lit bm l++y=iW lit bm l++(cR lit 256++y):=by unfold kr;rw[av]
  rw[<-this];exact h
 obtain⟨c,s1,b⟩ :=C4 g q n l t all a rem au h' o p m;obtain⟨j,i⟩ :=tL g d y
 have e:c.step=(({ c with x:=y }:IS).over,0):=by
  rw[IS.Xg b.st];unfold IS.token;rw[b.lt,b.x,j];simp only;rw[aa δ,aa δ,af δ,i]
 have s2:=s1.tail (by rw[e]);rw[e]at s2;exact⟨c,s2,b⟩
end
end Go.Proofs.YtdhmnlpfhfmpfaaGreat
