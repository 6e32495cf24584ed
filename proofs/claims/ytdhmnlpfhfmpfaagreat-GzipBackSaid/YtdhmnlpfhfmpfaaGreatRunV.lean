/-
  part
-/
import Derived.Test.YtdhmnlpfhfmpfaaGreatRunW
import Derived.BigRegion
import Derived.Deep.CutBlock
import Derived.Deep.DeepCutAuto
namespace Go.Proofs.YtdhmnlpfhfmpfaaGreat
open Go.RowKit
set_option linter.unusedVariables false
set_option maxRecDepth 100000
set_option maxHeartbeats 4000000
def a8O (w:World) (l:aj) (gk:Nat) (b a:Value) (wr:World):Prop:=
 ∃(i m c:Nat) (A:ay) (L:List Rn),a= .int .i64 i/\b= .slice A m c/\i<=l.length/\Hid (lA wr w.heap.size A m c L)/\Hid (L++jL (l.drop i)=jL l)/\Hid (Below w.heap.size w wr)/\Hid (gk=l.length-i)
theorem X5 (w:World) (Al:ay) (nl cl B:Nat) (l:aj) (hl:bT .i64 w B Al nl l) (hB:B<=w.heap.size) (hn:nl<=1000) (hp:∀i,i<l.length->0<=ix l i):Calls Tryz.prog 117 #[.slice Al nl cl] w (Nd w (jL l)):=by
 obtain⟨i0,hi,I,H,G⟩ :=aL Jx;have n:=η (⟨hi,I,H,G⟩ :_/\_/\_/\_);have d:=η (⟨hl,hl.1,hB,hp⟩ :_/\_/\_/\_);have x6:(0:Int)<=(nl:Int)/\(nl:Int)<=1000:=ω;clear hi I H G hl hB hp;go_enter Tryz.func117,Tryz.ntmps117
 go_wp2_with fail;go_loopg [3,4] nl (a8O w l)
 case atStart=>exact⟨0,0,0,none,[],rfl,rfl,aF _,lA.dN,rfl,ax _ _,by show _=_;rw[<-d.out.2.1];omega⟩
 obtain⟨i,m,c,A,L,rfl,rfl,hi,P,b,z,hg⟩ :=hrel;by_cases g:i<nl
 rotate_left
 · obtain rfl:i=nl:=by have:=d.out.2.1;omega
   have pM:¬(i:Int)<(i:Int):=ω
   have an:Hid (L=jL l):=by
    have h:=b.out;rw[dP (by rw[<-d.out.2.1];exact ai _),tP,aA]at h;exact h
   clear b g
   go_wp2_with fail;go_ret;exact⟨A,m,c,rfl,by rw[<-an.out];exact P.out,z.out⟩
 have vV:(i:Int)<(nl:Int)/\(0:Int)<=(i:Int):=ω;obtain⟨ad,hA,V,hc⟩ :=d.out.1.at_ g
 have pd:∀j,j<nl->wr.cell? (ad.add j)=some (.int .i64 (ix l j)):=λj y=>by
  obtain⟨Cw,r,ZP,am⟩ :=d.out.1.at_ y;rw[hA]at r;injection r with r;subst r;exact(z.out.cell (by rw[bG];exact aB V d.out.2.2.1)).trans am
 have YA:=η pd;have al:=pd i g;obtain⟨K,hK⟩ :=ν (ix l i);have Ih:0<=K:=by rw[<-hK];exact d.out.2.2.2 i (by rw[<-d.out.2.1];exact g)
 rw[hK]at al;have HK:=η hK;have oG:=η (show i<l.length by rw[<-d.out.2.1];exact g);subst hA;clear pd V hc hK g;obtain⟨M,C⟩ :=ν (runN K (l.drop (i+1)));have HM:=η C;have aE:i+(M+1)<=nl:=by have D:=G2 K (l.drop (i+1));rw[az,C]at D;have:=oG.out;have:=d.out.2.1;omega
 have u:Hid (∀j,j<=M->(j<M↔i+(j+1)<nl/\ix l (i+(j+1))=K)):=λj y=>by
  have Va:=OG K (l.drop (i+1)) j (by rw[C];exact y);rw[az,mg,<-d.out.2.1,C]at Va;rw[show i+(j+1)=i+1+j by omega,Va];constructor
  · intro h;exact⟨ω,h.2⟩
  intro h;exact⟨ω,h.2⟩
 have s:=η (X3 (l:=l) (i:=i) (m:=M) oG.out (by rw[HK.out];exact C));clear C;obtain⟨E,ah⟩ :∃E,E=gk:= ⟨_,rfl⟩;subst ah;go_upto_block 2 with fail
 go_cut [6] (λv6 wx=>v6= .int .i64 ((M:Int)+1)/\wx=wr)
 case first=>
  go_wp2_with fail;go_loopg [6] nl (λ(gj:Nat) (v6:Value) wx=>∃j:Nat,v6= .int .i64 ((j+1:Nat):Int)/\wx=wr/\j<=M/\Hid (gj+j=nl))
  case atStart=>exact⟨0,rfl,rfl,aF _,by show nl+0=nl;rfl⟩
  rename World=>wi
  obtain⟨j,rfl,rfl,y,Q⟩ :=hrel;have J:=u.out j y;obtain⟨q,p⟩ :=ν (j+1);rw[p]at J⊢;have HQ:=η p;obtain⟨t,ht⟩ :=ν (i+q);have ao:t<=nl:=ω;have ap:(i:Int)+(q:Int)=(t:Int)/\(t:Int)<=(nl:Int)/\(0:Int)<=(q:Int)/\(0:Int)<=(t:Int):=ω;rw[ht]at J;have HT:=η ht;clear p ht
  have T:∀(_:¬(t<nl/\ix l t=K)),Hid (Value.int .i64 (q:Int)=Value.int .i64 ((M:Int)+1)):=λh=>by
   show _=_;have D:¬j<M:=λZ=>h (J.1 Z);have h3:=HQ.out;rw[show(q:Int)=(M:Int)+1 by omega]
  have HS:=η J;clear J y;by_cases vx:t<nl
  rotate_left
  · have ae:¬(t:Int)<(nl:Int):=ω;have HR:=T λh=>vx h.1;clear T HS
    go_wp2_with fail;go_meet;exact⟨HR.out,rfl⟩
  have ae:(t:Int)<(nl:Int):=ω;have xC:=YA.out t vx;by_cases f:ix l t=K
  · rw[f]at xC;have qs:=η (HS.out.2 ⟨vx,f⟩);clear T HS f
    go_wp2_with fail;go_roundg (gk-1)
    case measure=>have:=Q.out;have:=HQ.out;have:=HT.out;omega
    case rel=>exact⟨j+1,by have:=HQ.out;go_num,rfl,qs.out,by show gk-1+(j+1)=nl;have:=Q.out;have:=HT.out;have:=HQ.out;omega⟩
  have HR:=T λh=>f h.2;have ac:(ix l t==K)=false:=by simpa using f
  obtain⟨X,hX⟩ :=ν (ix l t);rw[hX]at xC ac;clear T HS f hX
  go_wp2_with fail;go_meet;exact⟨HR.out,rfl⟩
 obtain⟨rfl,ab⟩ :=hcut;obtain rfl:=ab.symm;have be:(0:Int)<=(M:Int)/\(i:Int)+(M:Int)+1<=(nl:Int):=ω
 have O2:m<=1000:=by
  have D:=b.out;have Z:=aN List.length D;rw[ag]at Z;have h3:=E0 l;have h4:=P.out.1;have:=d.out.2.1;omega
 by_cases Y:0<K
 · have a:=s.out;rw[HK.out,af Y]at a;have qs:Hid ((L++[⟨K,0,0⟩])++iq K M++jL (l.drop (i+(M+1)))=jL l):=by show _=_;rw[<-b.out,a];simp
   clear a s b;have jb:=P.out.alloc (.cells #[.int .i64 K, .int .i64 0, .int .i64 0] 166);have iG:=z.out.alloc z.out.size (.cells #[.int .i64 K, .int .i64 0, .int .i64 0] 166);have nR:=η (⟨jb,iG⟩ :_/\_);clear jb iG
   go_wp2_with (at_builtin;(refine fE w.heap.size i0 rfl (.tmp 38) (.tmp 41) rfl n.out.1 n.out.2.1 n.out.2.2.1 n.out.2.2.2 rfl nR.out.1 rfl (yP.lit wr K 0 0 166) ω nR.out.2.size ?_)
                intro A4 d4 w4 bL S dT;have vg:=η (⟨bL,nR.out.2.grown S nR.out.2.size λq p=>(P.out.2.lt p).1⟩ :_/\_);clear bL S dT)
   have HC:=η (wJ w4 K M ω ω);have bi:=η (show m+1<=1001 by omega)
   go_wp2_with fail;refine HC.out.mono ?_;rintro e w5 ⟨A5,F,c5,rfl,v,x⟩;have Kj:F<=1000:=by have D:=v.1;have Z:=wH K M;omega
   have O:=vg.out.1.keeps x;have W:=vg.out.2.trans (x.mono vg.out.2.size);have k:=η (⟨O,W,v.rd⟩ :_/\_/\_);clear O W v x
   go_wp2_with (at_builtin;(refine fE w.heap.size i0 rfl (.tmp 45) (.tmp 48) rfl n.out.1 n.out.2.1 n.out.2.2.1 n.out.2.2.2 rfl k.out.1 rfl k.out.2.2 ω k.out.2.1.size ?_)
                intro A6 d6 w6 N R iZ;have o:=η (⟨N,k.out.2.1.grown R k.out.2.1.size λq p=>(k.out.1.2.lt p).1⟩ :_/\_);clear N R iZ)
   go_roundg (E-(M+1))
   case measure=>have:=hg.out;have:=oG.out;omega
   case rel=>exact⟨i+(M+1),m+1+F,d6,A6,_,by go_num,rfl,τ d.out.2.1,o.out.1,qs.out,o.out.2,by show E-(M+1)=l.length-(i+(M+1));have:=hg.out;omega⟩
 have a:=s.out;rw[HK.out,aa Y]at a;have qs:Hid (L++iq K (M+1)++jL (l.drop (i+(M+1)))=jL l):=by show _=_;rw[<-b.out,a];simp
 clear a s b;have HC:=η (wJ wr K (M+1) ω Ih);have U:((M+1:Nat):Int)=(M:Int)+1:=ω;rw[U]at HC;clear U
 go_wp2_with fail;refine HC.out.mono ?_;rintro e w5 ⟨A5,F,c5,rfl,v,x⟩;have Kj:F<=1000:=by have D:=v.1;have Z:=wH K (M+1);omega
 have O:=P.out.keeps x;have W:=z.out.trans (x.mono z.out.size);have k:=η (⟨O,W,v.rd⟩ :_/\_/\_);clear O W v x
 go_wp2_with (at_builtin;(refine fE w.heap.size i0 rfl (.tmp 45) (.tmp 48) rfl n.out.1 n.out.2.1 n.out.2.2.1 n.out.2.2.2 rfl k.out.1 rfl k.out.2.2 ω k.out.2.1.size ?_)
              intro A6 d6 w6 N R iZ;have o:=η (⟨N,k.out.2.1.grown R k.out.2.1.size λq p=>(k.out.1.2.lt p).1⟩ :_/\_);clear N R iZ)
 go_roundg (E-(M+1))
 case measure=>have:=hg.out;have:=oG.out;omega
 case rel=>exact⟨i+(M+1),m+F,d6,A6,_,by go_num,rfl,τ d.out.2.1,o.out.1,qs.out,o.out.2,by show E-(M+1)=l.length-(i+(M+1));have:=hg.out;omega⟩
end Go.Proofs.YtdhmnlpfhfmpfaaGreat
