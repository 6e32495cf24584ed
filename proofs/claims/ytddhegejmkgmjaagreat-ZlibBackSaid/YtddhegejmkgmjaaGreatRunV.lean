/-
  part
-/
import Derived.Test.YtddhegejmkgmjaaGreatRunW
import Derived.BigRegion
import Derived.Deep.CutBlock
import Derived.Deep.DeepCutAuto
namespace Go.Proofs.YtddhegejmkgmjaaGreat
open Go.RowKit
set_option linter.unusedVariables false
set_option maxRecDepth 100000
set_option maxHeartbeats 4000000
def a3c (w:World) (l:List Int) (gk:Nat) (b a:Value) (wr:World):Prop:=
 ∃(i m c:Nat) (A:Option Addr) (L:List Rn),a= .int .i64 i/\b= .slice A m c/\i<=l.length/\Hid (gD wr w.heap.size A m c L)/\Hid (L++eQ (l.drop i)=eQ l)/\Hid (Below w.heap.size w wr)/\Hid (gk=l.length-i)
theorem Ps (w:World) (Al:Option Addr) (nl cl B:Nat) (l:List Int) (hl:aT .i64 w B Al nl l) (hB:B<=w.heap.size) (hn:nl<=1000) (hp:∀i,i<l.length->0<=ix l i):Calls Tryz.prog 94 #[.slice Al nl cl] w (Hm w (eQ l)):=by
 obtain⟨i0,hi,H,G,F⟩ :=info_parts DC;have g:=η (⟨hi,H,G,F⟩ :_/\_/\_/\_);have b:=η (⟨hl,hl.1,hB,hp⟩ :_/\_/\_/\_);have rE:(0:Int)<=(nl:Int)/\(nl:Int)<=1000:=ω;clear hi H G F hl hB hp;go_enter Tryz.func94,Tryz.ntmps94
 go_wp2_with fail
 go_loopg [3,4] nl (a3c w l)
 case atStart=>exact⟨0,0,0,none,[],rfl,rfl,Nat.zero_le _,gD.br,rfl,Below.refl _ _,by show _=_;rw[<-b.out.2.1];omega⟩
 case round=>
  obtain⟨i,m,c,A,L,rfl,rfl,hi,O,u,y,hg⟩ :=hrel;by_cases d:i<nl
  · have rD:(i:Int)<(nl:Int)/\(0:Int)<=(i:Int):=ω;obtain⟨ad,hA,V,hc⟩ :=b.out.1.at_ d
    have rF:∀j,j<nl->wr.cell? (ad.add j)=some (.int .i64 (ix l j)):=λj x=>by
     obtain⟨EN,n,RN,an⟩ :=b.out.1.at_ x;rw[hA]at n;injection n with n;subst n;exact(y.out.cell (by rw[aw];exact Nat.lt_of_lt_of_le V b.out.2.2.1)).trans an
    have Lg:=η rF;have am:=rF i d;obtain⟨K,hK⟩ :=ν (ix l i);have Ia:0<=K:=by rw[<-hK];exact b.out.2.2.2 i (by rw[<-b.out.2.1];exact d)
    rw[hK]at am;have HK:=η hK;have jJ:=η (show i<l.length by rw[<-b.out.2.1];exact d);subst hA;clear rF V hc hK d;obtain⟨M,z⟩ :=ν (runN K (l.drop (i+1)));have HM:=η z;have aI:i+(M+1)<=nl:=by have C:=B2 K (l.drop (i+1));rw[List.length_drop,z]at C;have:=jJ.out;have:=b.out.2.1;omega
    have p:Hid (∀j,j<=M->(j<M↔i+(j+1)<nl/\ix l (i+(j+1))=K)):=λj x=>by
     have P:=IV K (l.drop (i+1)) j (by rw[z];exact x);rw[List.length_drop,ia,<-b.out.2.1,z]at P;rw[show i+(j+1)=i+1+j by omega,P];constructor
     · intro h;exact⟨ω,h.2⟩
     · intro h;exact⟨ω,h.2⟩
    have o:=η (Pq (l:=l) (i:=i) (m:=M) jJ.out (by rw[HK.out];exact z));clear z;obtain⟨D,al⟩ :∃D,D=gk:= ⟨_,rfl⟩;subst al
    go_upto_block 2 with fail
    go_cut [6] (λv6 wx=>v6= .int .i64 ((M:Int)+1)/\wx=wr)
    case first=>
     go_wp2_with fail
     go_loopg [6] nl (λ(gj:Nat) (v6:Value) wx=>∃j:Nat,v6= .int .i64 ((j+1:Nat):Int)/\wx=wr/\j<=M/\Hid (gj+j=nl))
     case atStart=>exact⟨0,rfl,rfl,Nat.zero_le _,by show nl+0=nl;rfl⟩
     case round=>
      rename World=>wi
      obtain⟨j,rfl,rfl,x,Q⟩ :=hrel;have I:=p.out j x;obtain⟨q,k⟩ :=ν (j+1);rw[k]at I⊢;have HQ:=η k;obtain⟨t,ht⟩ :=ν (i+q);have ap:t<=nl:=ω;have aE:(i:Int)+(q:Int)=(t:Int)/\(t:Int)<=(nl:Int)/\(0:Int)<=(q:Int)/\(0:Int)<=(t:Int):=ω;rw[ht]at I;have HT:=η ht;clear k ht
      have T:∀(_:¬(t<nl/\ix l t=K)),Hid (Value.int .i64 (q:Int)=Value.int .i64 ((M:Int)+1)):=λh=>by
       show _=_
       have C:¬j<M:=λZ=>h (I.1 Z)
       have h3:=HQ.out;rw[show(q:Int)=(M:Int)+1 by omega]
      have HS:=η I;clear I x;by_cases pO:t<nl
      · have ah:(t:Int)<(nl:Int):=ω;have qP:=Lg.out t pO;by_cases v:ix l t=K
        · rw[v]at qP;have ku:=η (HS.out.2 ⟨pO,v⟩);clear T HS v
          go_wp2_with fail
          go_roundg (gk-1)
          case measure=>have:=Q.out;have:=HQ.out;have:=HT.out;omega
          case rel=>exact⟨j+1,by have:=HQ.out;go_num,rfl,ku.out,by show gk-1+(j+1)=nl;have:=Q.out;have:=HT.out;have:=HQ.out;omega⟩
        · have HR:=T λh=>v h.2
          have ac:(ix l t==K)=false:=by simpa using v
          obtain⟨X,hX⟩ :=ν (ix l t);rw[hX]at qP ac;clear T HS v hX
          go_wp2_with fail
          go_meet
          exact⟨HR.out,rfl⟩
      · have ah:¬(t:Int)<(nl:Int):=ω;have HR:=T λh=>pO h.1
        clear T HS
        go_wp2_with fail
        go_meet
        exact⟨HR.out,rfl⟩
    case rest=>
     obtain⟨rfl,ab⟩ :=hcut;obtain rfl:=ab.symm;have aS:(0:Int)<=(M:Int)/\(i:Int)+(M:Int)+1<=(nl:Int):=ω
     have uM:m<=1000:=by
      have C:=u.out;have Z:=congrArg List.length C;rw[List.length_append]at Z;have h3:=yf l;have h4:=O.out.1;have:=b.out.2.1;omega
     by_cases Y:0<K
     · have a:=o.out;rw[HK.out,if_pos Y]at a;have ku:Hid ((L++[⟨K,0,0⟩])++dg K M++eQ (l.drop (i+(M+1)))=eQ l):=by show _=_;rw[<-u.out,a];simp
       clear a o u;have eD:=O.out.alloc (.cells #[.int .i64 K, .int .i64 0, .int .i64 0] 141);have dx:=y.out.alloc y.out.size (.cells #[.int .i64 K, .int .i64 0, .int .i64 0] 141);have je:=η (⟨eD,dx⟩ :_/\_);clear eD dx
       go_wp2_with (at_builtin;(refine bU w.heap.size i0 rfl (.tmp 38) (.tmp 41) rfl g.out.1 g.out.2.1 g.out.2.2.1 g.out.2.2.2 rfl je.out.1 rfl (sR.lit wr K 0 0 141) ω je.out.2.size ?_)
                    intro A4 d4 w4 aC S bG;have pL:=η (⟨aC,je.out.2.grown S je.out.2.size λq k=>(O.out.2.lt k).1⟩ :_/\_);clear aC S bG)
       have HC:=η (qD w4 K M ω ω);have bb:=η (show m+1<=1001 by omega)
       go_wp2_with fail
       refine HC.out.mono ?_;rintro e w5 ⟨A5,E,c5,rfl,r,s⟩;have K5:E<=1000:=by have C:=r.1;have Z:=qB K M;omega
       have N:=pL.out.1.keeps s;have W:=pL.out.2.trans (s.mono pL.out.2.size);have f:=η (⟨N,W,r.rd⟩ :_/\_/\_);clear N W r s
       go_wp2_with (at_builtin;(refine bU w.heap.size i0 rfl (.tmp 45) (.tmp 48) rfl g.out.1 g.out.2.1 g.out.2.2.1 g.out.2.2.2 rfl f.out.1 rfl f.out.2.2 ω f.out.2.1.size ?_)
                    intro A6 d6 w6 J R dc;have Zs:=η (⟨J,f.out.2.1.grown R f.out.2.1.size λq k=>(f.out.1.2.lt k).1⟩ :_/\_);clear J R dc)
       go_roundg (D-(M+1))
       case measure=>have:=hg.out;have:=jJ.out;omega
       case rel=>exact⟨i+(M+1),m+1+E,d6,A6,_,by go_num,rfl,by have:=b.out.2.1;omega,Zs.out.1,ku.out,Zs.out.2,by show D-(M+1)=l.length-(i+(M+1));have:=hg.out;omega⟩
     · have a:=o.out;rw[HK.out,if_neg Y]at a;have ku:Hid (L++dg K (M+1)++eQ (l.drop (i+(M+1)))=eQ l):=by show _=_;rw[<-u.out,a];simp
       clear a o u;have HC:=η (qD wr K (M+1) ω Ia);have U:((M+1:Nat):Int)=(M:Int)+1:=ω;rw[U]at HC;clear U
       go_wp2_with fail
       refine HC.out.mono ?_;rintro e w5 ⟨A5,E,c5,rfl,r,s⟩;have K5:E<=1000:=by have C:=r.1;have Z:=qB K (M+1);omega
       have N:=O.out.keeps s;have W:=y.out.trans (s.mono y.out.size);have f:=η (⟨N,W,r.rd⟩ :_/\_/\_);clear N W r s
       go_wp2_with (at_builtin;(refine bU w.heap.size i0 rfl (.tmp 45) (.tmp 48) rfl g.out.1 g.out.2.1 g.out.2.2.1 g.out.2.2.2 rfl f.out.1 rfl f.out.2.2 ω f.out.2.1.size ?_)
                    intro A6 d6 w6 J R dc;have Zs:=η (⟨J,f.out.2.1.grown R f.out.2.1.size λq k=>(f.out.1.2.lt k).1⟩ :_/\_);clear J R dc)
       go_roundg (D-(M+1))
       case measure=>have:=hg.out;have:=jJ.out;omega
       case rel=>exact⟨i+(M+1),m+E,d6,A6,_,by go_num,rfl,by have:=b.out.2.1;omega,Zs.out.1,ku.out,Zs.out.2,by show D-(M+1)=l.length-(i+(M+1));have:=hg.out;omega⟩
  · obtain rfl:i=nl:=by have:=b.out.2.1;omega
    have mA:¬(i:Int)<(i:Int):=ω
    have ao:Hid (L=eQ l):=by
     have h:=u.out;rw[List.drop_of_length_le (by rw[<-b.out.2.1];exact Nat.le_refl _),om,List.append_nil]at h;exact h
    clear u d
    go_wp2_with fail
    go_ret
    exact⟨A,m,c,rfl,by rw[<-ao.out];exact O.out,y.out⟩
end Go.Proofs.YtddhegejmkgmjaaGreat
