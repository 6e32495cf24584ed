/-
  part
-/
import Derived.Test.YtdhmnlpfhfmpfaaGreatRunW
import Derived.BigRegion
import Derived.Deep.CutBlock
import Derived.Deep.DeepCutAuto
namespace Go.Proofs.YtdhmnlpfhfmpfaaGreat
open Go.RowKit
set_option linter.unusedVariables false
set_option maxRecDepth 100000
set_option maxHeartbeats 4000000
def a8s (w:World) (l:List Int) (gk:Nat) (b a:Value) (wr:World):Prop:=
 ∃(i m c:Nat) (A:Option Addr) (L:List Rn),a= .int .i64 i/\b= .slice A m c/\i<=l.length/\Hid (l9 wr w.heap.size A m c L)/\Hid (L++jH (l.drop i)=jH l)/\Hid (Below w.heap.size w wr)/\Hid (gk=l.length-i)
theorem Wp (w:World) (Al:Option Addr) (nl cl B:Nat) (l:List Int) (hl:bU .i64 w B Al nl l) (hB:B<=w.heap.size) (hn:nl<=1000) (hp:∀i,i<l.length->0<=ix l i):Calls Tryz.prog 117 #[.slice Al nl cl] w (MQ w (jH l)):=by
 obtain⟨i0,hi,I,H,G⟩ :=aJ Jh;have n:=η (⟨hi,I,H,G⟩ :_/\_/\_/\_);have d:=η (⟨hl,hl.1,hB,hp⟩ :_/\_/\_/\_);have xj:(0:Int)<=(nl:Int)/\(nl:Int)<=1000:=ω;clear hi I H G hl hB hp;go_enter Tryz.func117,Tryz.ntmps117
 go_wp2_with fail;go_loopg [3,4] nl (a8s w l)
 case atStart=>exact⟨0,0,0,none,[],rfl,rfl,aF _,l9.dK,rfl,aw _ _,by show _=_;rw[<-d.out.2.1];omega⟩
 obtain⟨i,m,c,A,L,rfl,rfl,hi,P,b,z,hg⟩ :=hrel;by_cases g:i<nl
 rotate_left
 · obtain rfl:i=nl:=by have:=d.out.2.1;omega
   have qh:¬(i:Int)<(i:Int):=ω
   have ao:Hid (L=jH l):=by
    have h:=b.out;rw[dM (by rw[<-d.out.2.1];exact ag _),tG,ax]at h;exact h
   clear b g
   go_wp2_with fail;go_ret;exact⟨A,m,c,rfl,by rw[<-ao.out];exact P.out,z.out⟩
 have vJ:(i:Int)<(nl:Int)/\(0:Int)<=(i:Int):=ω;obtain⟨ad,hA,W,hc⟩ :=d.out.1.at_ g
 have tL:∀j,j<nl->wr.cell? (ad.add j)=some (.int .i64 (ix l j)):=λj y=>by
  obtain⟨MT,r,YZ,an⟩ :=d.out.1.at_ y;rw[hA]at r;injection r with r;subst r;exact(z.out.cell (by rw[bH];exact aD W d.out.2.2.1)).trans an
 have XU:=η tL;have am:=tL i g;obtain⟨K,hK⟩ :=ν (ix l i);have I0:0<=K:=by rw[<-hK];exact d.out.2.2.2 i (by rw[<-d.out.2.1];exact g)
 rw[hK]at am;have HK:=η hK;have oX:=η (show i<l.length by rw[<-d.out.2.1];exact g);subst hA;clear tL W hc hK g;obtain⟨M,C⟩ :=ν (runN K (l.drop (i+1)));have HM:=η C;have be:i+(M+1)<=nl:=by have D:=FW K (l.drop (i+1));rw[av,C]at D;have:=oX.out;have:=d.out.2.1;omega
 have u:Hid (∀j,j<=M->(j<M↔i+(j+1)<nl/\ix l (i+(j+1))=K)):=λj y=>by
  have Q:=Oe K (l.drop (i+1)) j (by rw[C];exact y);rw[av,lQ,<-d.out.2.1,C]at Q;rw[show i+(j+1)=i+1+j by omega,Q];constructor
  · intro h;exact⟨ω,h.2⟩
  intro h;exact⟨ω,h.2⟩
 have s:=η (Wn (l:=l) (i:=i) (m:=M) oX.out (by rw[HK.out];exact C));clear C;obtain⟨E,al⟩ :∃E,E=gk:= ⟨_,rfl⟩;subst al;go_upto_block 2 with fail
 go_cut [6] (λv6 wx=>v6= .int .i64 ((M:Int)+1)/\wx=wr)
 case first=>
  go_wp2_with fail;go_loopg [6] nl (λ(gj:Nat) (v6:Value) wx=>∃j:Nat,v6= .int .i64 ((j+1:Nat):Int)/\wx=wr/\j<=M/\Hid (gj+j=nl))
  case atStart=>exact⟨0,rfl,rfl,aF _,by show nl+0=nl;rfl⟩
  rename World=>wi
  obtain⟨j,rfl,rfl,y,R⟩ :=hrel;have J:=u.out j y;obtain⟨q,p⟩ :=ν (j+1);rw[p]at J⊢;have HQ:=η p;obtain⟨t,ht⟩ :=ν (i+q);have ap:t<=nl:=ω;have aE:(i:Int)+(q:Int)=(t:Int)/\(t:Int)<=(nl:Int)/\(0:Int)<=(q:Int)/\(0:Int)<=(t:Int):=ω;rw[ht]at J;have HT:=η ht;clear p ht
  have U:∀(_:¬(t<nl/\ix l t=K)),Hid (Value.int .i64 (q:Int)=Value.int .i64 ((M:Int)+1)):=λh=>by
   show _=_;have D:¬j<M:=λh2=>h (J.1 h2);have h3:=HQ.out;rw[show(q:Int)=(M:Int)+1 by omega]
  have HS:=η J;clear J y;by_cases uZ:t<nl
  rotate_left
  · have ah:¬(t:Int)<(nl:Int):=ω;have HR:=U λh=>uZ h.1;clear U HS
    go_wp2_with fail;go_meet;exact⟨HR.out,rfl⟩
  have ah:(t:Int)<(nl:Int):=ω;have xf:=XU.out t uZ;by_cases f:ix l t=K
  · rw[f]at xf;have pA:=η (HS.out.2 ⟨uZ,f⟩);clear U HS f
    go_wp2_with fail;go_roundg (gk-1)
    case measure=>have:=R.out;have:=HQ.out;have:=HT.out;omega
    case rel=>exact⟨j+1,by have:=HQ.out;go_num,rfl,pA.out,by show gk-1+(j+1)=nl;have:=R.out;have:=HT.out;have:=HQ.out;omega⟩
  have HR:=U λh=>f h.2;have ac:(ix l t==K)=false:=by simpa using f
  obtain⟨X,hX⟩ :=ν (ix l t);rw[hX]at xf ac;clear U HS f hX
  go_wp2_with fail;go_meet;exact⟨HR.out,rfl⟩
 obtain⟨rfl,ab⟩ :=hcut;obtain rfl:=ab.symm;have bi:(0:Int)<=(M:Int)/\(i:Int)+(M:Int)+1<=(nl:Int):=ω
 have Lx:m<=1000:=by
  have D:=b.out;have h2:=aL List.length D;rw[af]at h2;have h3:=DW l;have h4:=P.out.1;have:=d.out.2.1;omega
 by_cases Z:0<K
 · have a:=s.out;rw[HK.out,ae Z]at a;have pA:Hid ((L++[⟨K,0,0⟩])++ij K M++jH (l.drop (i+(M+1)))=jH l):=by show _=_;rw[<-b.out,a];simp
   clear a s b;have iY:=P.out.alloc (.cells #[.int .i64 K, .int .i64 0, .int .i64 0] 166);have iA:=z.out.alloc z.out.size (.cells #[.int .i64 K, .int .i64 0, .int .i64 0] 166);have nJ:=η (⟨iY,iA⟩ :_/\_);clear iY iA
   go_wp2_with (at_builtin;(refine fC w.heap.size i0 rfl (.tmp 38) (.tmp 41) rfl n.out.1 n.out.2.1 n.out.2.2.1 n.out.2.2.2 rfl nJ.out.1 rfl (yt.lit wr K 0 0 166) ω nJ.out.2.size ?_)
                intro A4 d4 w4 bE T dP;have uV:=η (⟨bE,nJ.out.2.grown T nJ.out.2.size λq p=>(P.out.2.lt p).1⟩ :_/\_);clear bE T dP)
   have HC:=η (vZ w4 K M ω ω);have bl:=η (show m+1<=1001 by omega)
   go_wp2_with fail;refine HC.out.mono ?_;rintro e w5 ⟨A5,F,c5,rfl,v,x⟩;have K5:F<=1000:=by have D:=v.1;have h2:=vX K M;omega
   have O:=uV.out.1.keeps x;have Y:=uV.out.2.trans (x.mono uV.out.2.size);have k:=η (⟨O,Y,v.rd⟩ :_/\_/\_);clear O Y v x
   go_wp2_with (at_builtin;(refine fC w.heap.size i0 rfl (.tmp 45) (.tmp 48) rfl n.out.1 n.out.2.1 n.out.2.2.1 n.out.2.2.2 rfl k.out.1 rfl k.out.2.2 ω k.out.2.1.size ?_)
                intro A6 d6 w6 N S iF;have o:=η (⟨N,k.out.2.1.grown S k.out.2.1.size λq p=>(k.out.1.2.lt p).1⟩ :_/\_);clear N S iF)
   go_roundg (E-(M+1))
   case measure=>have:=hg.out;have:=oX.out;omega
   case rel=>exact⟨i+(M+1),m+1+F,d6,A6,_,by go_num,rfl,by have:=d.out.2.1;omega,o.out.1,pA.out,o.out.2,by show E-(M+1)=l.length-(i+(M+1));have:=hg.out;omega⟩
 have a:=s.out;rw[HK.out,aa Z]at a;have pA:Hid (L++ij K (M+1)++jH (l.drop (i+(M+1)))=jH l):=by show _=_;rw[<-b.out,a];simp
 clear a s b;have HC:=η (vZ wr K (M+1) ω I0);have V:((M+1:Nat):Int)=(M:Int)+1:=ω;rw[V]at HC;clear V
 go_wp2_with fail;refine HC.out.mono ?_;rintro e w5 ⟨A5,F,c5,rfl,v,x⟩;have K5:F<=1000:=by have D:=v.1;have h2:=vX K (M+1);omega
 have O:=P.out.keeps x;have Y:=z.out.trans (x.mono z.out.size);have k:=η (⟨O,Y,v.rd⟩ :_/\_/\_);clear O Y v x
 go_wp2_with (at_builtin;(refine fC w.heap.size i0 rfl (.tmp 45) (.tmp 48) rfl n.out.1 n.out.2.1 n.out.2.2.1 n.out.2.2.2 rfl k.out.1 rfl k.out.2.2 ω k.out.2.1.size ?_)
              intro A6 d6 w6 N S iF;have o:=η (⟨N,k.out.2.1.grown S k.out.2.1.size λq p=>(k.out.1.2.lt p).1⟩ :_/\_);clear N S iF)
 go_roundg (E-(M+1))
 case measure=>have:=hg.out;have:=oX.out;omega
 case rel=>exact⟨i+(M+1),m+F,d6,A6,_,by go_num,rfl,by have:=d.out.2.1;omega,o.out.1,pA.out,o.out.2,by show E-(M+1)=l.length-(i+(M+1));have:=hg.out;omega⟩
end Go.Proofs.YtdhmnlpfhfmpfaaGreat
