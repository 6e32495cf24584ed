/-
  part
-/
import Derived.Test.YtgiimmkmjpbecaaGreatRunW
import Derived.BigRegion
import Derived.Deep.CutBlock
import Derived.Deep.DeepCutAuto
namespace Go.Proofs.YtgiimmkmjpbecaaGreat
open Go.RowKit
set_option linter.unusedVariables false
set_option maxRecDepth 100000
set_option maxHeartbeats 4000000
def a7e (w:World) (l:ag) (gk:Nat) (b a:Value) (wr:World):Prop:=
 ∃(i m c:Nat) (A:ax) (L:List Rn),a= .int .i64 i/\b= .slice A m c/\i<=l.length/\Hid (l4 wr w.heap.size A m c L)/\Hid (L++jM (l.drop i)=jM l)/\Hid (Below w.heap.size w wr)/\Hid (gk=l.length-i)
theorem Xh (w:World) (Al:ax) (nl cl B:Nat) (l:ag) (hl:bT .i64 w B Al nl l) (hB:B<=w.heap.size) (hn:nl<=1000) (hp:∀i,i<l.length->0<=ix l i):Calls Tryz.prog 127 #[.slice Al nl cl] w (O9 w (jM l)):=by
 obtain⟨i0,hi,I,H,G⟩ :=aL JY;have n:=η (⟨hi,I,H,G⟩ :_/\_/\_/\_);have d:=η (⟨hl,hl.1,hB,hp⟩ :_/\_/\_/\_);have tJ:(0:Int)<=(nl:Int)/\(nl:Int)<=1000:=ω;clear hi I H G hl hB hp
 go_in
 go_wp2_with fail;go_loopg [3,4] nl (a7e w l)
 case atStart=>exact⟨0,0,0,none,[],rfl,rfl,aG _,l4.di,rfl,aw _ _,by show _=_;rw[<-d.2.1];omega⟩
 obtain⟨i,m,c,A,L,rfl,rfl,hi,P,b,z,hg⟩ :=hrel;by_cases g:i<nl
 rotate_left
 · obtain rfl:i=nl:=by have:=d.2.1;omega
   have qB:¬(i:Int)<(i:Int):=ω
   have ao:Hid (L=jM l):=by
    have h:=b.out;rw[cV (by rw[<-d.2.1];exact af _),tC,ak]at h;exact h
   clear b g
   go_wp2_with fail;go_ret;exact⟨A,m,c,rfl,by rw[<-ao.out];exact P.out,z.out⟩
 have xi:(i:Int)<(nl:Int)/\(0:Int)<=(i:Int):=ω;obtain⟨ad,hA,W,hc⟩ :=d.1.at_ g
 have vI:∀j,j<nl->wr.cell? (ad.add j)=some (.int .i64 (ix l j)):=λj y=>by
  obtain⟨PT,r,ZO,an⟩ :=d.1.at_ y;rw[hA]at r;injection r with r;subst r;exact(z.out.cell (by rw[bH];exact aB W d.2.2.1)).trans an
 have YJ:=η vI;have am:=vI i g;obtain⟨K,hK⟩ :=ν (ix l i);have IK:0<=K:=by rw[<-hK];exact d.2.2.2 i (by rw[<-d.2.1];exact g)
 rw[hK]at am;have HK:=η hK;have ot:=η (show i<l.length by rw[<-d.2.1];exact g);subst hA;clear vI W hc hK g;obtain⟨M,C⟩ :=ν (runN K (l.drop (i+1)));have HM:=η C;have bd:i+(M+1)<=nl:=by have D:=Gs K (l.drop (i+1));rw[ay,C]at D;have:=ot.out;have:=d.2.1;omega
 have u:Hid (∀j,j<=M->(j<M↔i+(j+1)<nl/\ix l (i+(j+1))=K)):=λj y=>by
  have Q:=Pv K (l.drop (i+1)) j (by rw[C];exact y);rw[ay,lS,<-d.2.1,C]at Q;rw[show i+(j+1)=i+1+j by omega,Q];constructor
  · intro h;exact⟨ω,h.2⟩
  intro h;exact⟨ω,h.2⟩
 have s:=η (Xf (l:=l) (i:=i) (m:=M) ot.out (by rw[HK.out];exact C));clear C;obtain⟨E,al⟩ :∃E,E=gk:= ⟨_,rfl⟩;subst al;go_upto_block 2 with fail
 go_cut [6] (λv6 wx=>v6= .int .i64 ((M:Int)+1)/\wx=wr)
 case first=>
  go_wp2_with fail;go_loopg [6] nl (λ(gj:Nat) (v6:Value) wx=>∃j:Nat,v6= .int .i64 ((j+1:Nat):Int)/\wx=wr/\j<=M/\Hid (gj+j=nl))
  case atStart=>exact⟨0,rfl,rfl,aG _,by show nl+0=nl;rfl⟩
  rename World=>wi
  obtain⟨j,rfl,rfl,y,R⟩ :=hrel;have J:=u.out j y;obtain⟨q,p⟩ :=ν (j+1);rw[p]at J⊢;have HQ:=η p;obtain⟨t,ht⟩ :=ν (i+q);have ap:t<=nl:=ω;have aE:(i:Int)+(q:Int)=(t:Int)/\(t:Int)<=(nl:Int)/\(0:Int)<=(q:Int)/\(0:Int)<=(t:Int):=ω;rw[ht]at J;have HT:=η ht;clear p ht
  have U:∀(_:¬(t<nl/\ix l t=K)),Hid (Value.int .i64 (q:Int)=Value.int .i64 ((M:Int)+1)):=λh=>by
   show _=_;have D:¬j<M:=λh2=>h (J.1 h2);have h3:=HQ.out;rw[show(q:Int)=(M:Int)+1 by omega]
  have HS:=η J;clear J y;by_cases uR:t<nl
  rotate_left
  · have ah:¬(t:Int)<(nl:Int):=ω;have HR:=U λh=>uR h.1;clear U HS
    go_wp2_with fail;go_meet;exact⟨HR.out,rfl⟩
  have ah:(t:Int)<(nl:Int):=ω;have xf:=YJ.out t uR;by_cases f:ix l t=K
  · rw[f]at xf;have pj:=η (HS.2 ⟨uR,f⟩);clear U HS f
    go_wp2_with fail;go_roundg (gk-1)
    case measure=>have:=R.out;have:=HQ.out;have:=HT.out;omega
    case rel=>exact⟨j+1,by have:=HQ.out;go_num,rfl,pj.out,by show gk-1+(j+1)=nl;have:=R.out;have:=HT.out;have:=HQ.out;omega⟩
  have HR:=U λh=>f h.2;have ac:(ix l t==K)=false:=by simpa using f
  obtain⟨X,hX⟩ :=ν (ix l t);rw[hX]at xf ac;clear U HS f hX
  go_wp2_with fail;go_meet;exact⟨HR.out,rfl⟩
 obtain⟨rfl,ab⟩ :=hcut;obtain rfl:=ab.symm;have be:(0:Int)<=(M:Int)/\(i:Int)+(M:Int)+1<=(nl:Int):=ω
 have Hf:m<=1000:=by
  have D:=b.out;have h2:=bf List.length D;rw[ae]at h2;have h3:=Ei l;have h4:=P.out.1;have:=d.2.1;omega
 by_cases Z:0<K
 · have a:=s.out;rw[HK.out,aa Z]at a;have pj:Hid ((L++[⟨K,0,0⟩])++ik K M++jM (l.drop (i+(M+1)))=jM l):=by show _=_;rw[<-b.out,a];simp
   clear a s b;have je:=P.out.alloc (.cells #[.int .i64 K, .int .i64 0, .int .i64 0] 188);have iE:=z.out.alloc z.out.size (.cells #[.int .i64 K, .int .i64 0, .int .i64 0] 188);have nK:=η (⟨je,iE⟩ :_/\_);clear je iE
   go_wp2_with (at_builtin;(refine fC w.heap.size i0 rfl (.tmp 38) (.tmp 41) rfl n.1 n.2.1 n.2.2.1 n.2.2.2 rfl nK.1 rfl (ym.lit wr K 0 0 188) ω nK.2.size ?_)
                intro A4 d4 w4 bM T dY;have uO:=η (⟨bM,nK.2.grown T nK.2.size λq p=>(P.out.2.lt p).1⟩ :_/\_);clear bM T dY)
   have HC:=η (vT w4 K M ω ω);have bi:=η (show m+1<=1001 by omega)
   go_wp2_with fail;refine HC.mono ?_;rintro e w5 ⟨A5,F,c5,rfl,v,x⟩;have QY:F<=1000:=by have D:=v.1;have h2:=vR K M;omega
   have O:=uO.1.keeps x;have Y:=uO.2.trans (x.mono uO.2.size);have k:=η (⟨O,Y,v.rd⟩ :_/\_/\_);clear O Y v x
   go_wp2_with (at_builtin;(refine fC w.heap.size i0 rfl (.tmp 45) (.tmp 48) rfl n.1 n.2.1 n.2.2.1 n.2.2.2 rfl k.1 rfl k.2.2 ω k.2.1.size ?_)
                intro A6 d6 w6 N S fk;have o:=η (⟨N,k.2.1.grown S k.2.1.size λq p=>(k.1.2.lt p).1⟩ :_/\_);clear N S fk)
   go_roundg (E-(M+1))
   case measure=>have:=hg.out;have:=ot.out;omega
   case rel=>exact⟨i+(M+1),m+1+F,d6,A6,_,by go_num,rfl,τ d.2.1,o.1,pj.out,o.2,by show E-(M+1)=l.length-(i+(M+1));have:=hg.out;omega⟩
 have a:=s.out;rw[HK.out,a8 Z]at a;have pj:Hid (L++ik K (M+1)++jM (l.drop (i+(M+1)))=jM l):=by show _=_;rw[<-b.out,a];simp
 clear a s b;have HC:=η (vT wr K (M+1) ω IK);have V:((M+1:Nat):Int)=(M:Int)+1:=ω;rw[V]at HC;clear V
 go_wp2_with fail;refine HC.mono ?_;rintro e w5 ⟨A5,F,c5,rfl,v,x⟩;have QY:F<=1000:=by have D:=v.1;have h2:=vR K (M+1);omega
 have O:=P.out.keeps x;have Y:=z.out.trans (x.mono z.out.size);have k:=η (⟨O,Y,v.rd⟩ :_/\_/\_);clear O Y v x
 go_wp2_with (at_builtin;(refine fC w.heap.size i0 rfl (.tmp 45) (.tmp 48) rfl n.1 n.2.1 n.2.2.1 n.2.2.2 rfl k.1 rfl k.2.2 ω k.2.1.size ?_)
              intro A6 d6 w6 N S fk;have o:=η (⟨N,k.2.1.grown S k.2.1.size λq p=>(k.1.2.lt p).1⟩ :_/\_);clear N S fk)
 go_roundg (E-(M+1))
 case measure=>have:=hg.out;have:=ot.out;omega
 case rel=>exact⟨i+(M+1),m+F,d6,A6,_,by go_num,rfl,τ d.2.1,o.1,pj.out,o.2,by show E-(M+1)=l.length-(i+(M+1));have:=hg.out;omega⟩
end Go.Proofs.YtgiimmkmjpbecaaGreat
