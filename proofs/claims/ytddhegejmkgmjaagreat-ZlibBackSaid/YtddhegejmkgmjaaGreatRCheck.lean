/-
  part
-/
import Derived.Test.YtddhegejmkgmjaaGreatPk7
namespace Go.Proofs.YtddhegejmkgmjaaGreat
open Go.RowKit
set_option linter.unusedVariables false
set_option maxRecDepth 100000
set_option maxHeartbeats 4000000
def cS (l:List Int):Nat->Nat
 | 0=>0
 | k+1=>cS l k+if ix l k=1 then 1 else 0
theorem xW (l:List Int) (k:Nat):cS l k<=aR l k:=by
 induction k with
 | zero=>simp [cS]
 | succ k a=>simp only [cS,aR];split <;> split <;> omega
theorem Gq {l:List Int} {k:Nat} (h:∀i,i<k->ix l i<=1):cS l k=aR l k:=by
 induction k with
 | zero=>simp [cS,aR]
 | succ k a=>
   have c:=a λi hi=>h i ω
   have b:=h k ω;simp only [cS,aR]
   split <;> split <;> omega
theorem Dg {l:List Int} {n k:Nat} (b:k<n) (h:1<ix l k):cS l n<aR l n:=by
 induction n with
 | zero=>omega
 | succ n a=>
   simp only [cS,aR];by_cases e:k=n
   · subst e;have:=xW l k;rw[if_neg ω,if_pos ω];omega
   · have:=a ω
     split <;> split <;> omega
theorem kZ (l:List Int) (n:Nat):fS l n=true↔(aR l n=0\/(aR l n=1/\cS l n=1)):=by
 unfold fS oG;simp only [Bool.and_eq_true,decide_eq_true_eq];constructor
 · rintro⟨b,c⟩;have:=Gq b;omega
 · intro h;refine⟨λi hi=> ?_,ω⟩;by_cases a:1<ix l i
   · have:=Dg hi a;omega
   · omega
theorem pA (A:Option Addr) (n c B:Nat) (l:List Int) (most:Int) (w:World) (g:aT .i64 w B A n l) (h:n<=1000):
  Calls Tryz.prog 60 #[.slice A n c, .int .i64 most] w λe w'=>e= .returned (.int .i64 (ai l most))/\w=w':=by
 have d:=η g.1;by_cases p:most<1\/15<most\/288<n
 · have a:=η (se (l:=l) (most:=most) (by rw[<-d.out];exact p));by_cases O:most<1
   · clear p;go_enter Tryz.func60,Tryz.ntmps60
     go_wp2_with fail
     go_ret
     exact⟨aK a.out.symm,rfl⟩
   · by_cases N:15<most
     · clear p;go_enter Tryz.func60,Tryz.ntmps60
       go_wp2_with fail
       go_ret
       exact⟨aK a.out.symm,rfl⟩
     · have Y:288<n:=ω;clear p;go_enter Tryz.func60,Tryz.ntmps60
       go_wp2_with fail
       go_ret
       exact⟨aK a.out.symm,rfl⟩
 · have q:=η (show¬(most<1\/15<most\/288<l.length) by rw[<-d.out];exact p);have V:1<=most/\most<=15:=ω;have U:n<=288:=ω;have T:decide (most<1)=false:=ξ;have R:decide (15<most)=false:=ξ;have Q:decide ((288:Int)<(n:Int))=false:=ξ;clear p;go_enter Tryz.func60,Tryz.ntmps60
   go_wp2_with fail
   go_loop [5,6,7] (λs o i=>∃k:Nat,k<=n/\i= .int .i64 k/\s= .int .i64 (aR l k)/\o= .int .i64 (cS l k)/\Hid (∀j,j<k->0<=ix l j/\ix l j<=most)) (λ_ _ i=>n-(intOf i).toNat)
   case atStart=>exact⟨0,Nat.zero_le _,rfl,rfl,rfl,λj F=>absurd F ω⟩
   case round=>
    obtain⟨k,W,rfl,rfl,rfl,G⟩ :=hrel;have v:=Dq l k;have u:=xW l k;by_cases r:k<n
    · obtain⟨Z,rfl,_,M⟩ :=g.at_ r;by_cases ht:0<=ix l k/\ix l k<=most
      · have z:Hid (∀j,j<k+1->0<=ix l j/\ix l j<=most):=by
         intro j F;by_cases e:j=k
         · subst e;exact ht
         · exact G.out j ω
        by_cases hp:0<ix l k
        · have x:=η (show aR l (k+1)=aR l k+1 by simp [aR,hp]);by_cases f:ix l k=1
          · have t:=η (show cS l (k+1)=cS l k+1 by simp [cS,f]);rw[f]at M ht hp;clear f;have E:decide (most<1)=false:=ξ
            go_wp2_with fail
            go_round
            case rel=>exact⟨k+1,ω,by go_num,by rw[x.out];go_num,by rw[t.out];go_num,z⟩
            case measure=>simp [intOf];omega
          · have t:=η (show cS l (k+1)=cS l k by simp [cS,f]);have y:(ix l k==1)=false:=by simpa using f
            have J:decide (ix l k<0)=false:=ξ;have E:decide (most<ix l k)=false:=ξ
            go_wp2_with fail
            go_round
            case rel=>exact⟨k+1,ω,by go_num,by rw[x.out];go_num,by rw[t.out],z⟩
            case measure=>simp [intOf];omega
        · have x:=η (show aR l (k+1)=aR l k by simp [aR,hp]);have f:¬ix l k=1:=ω;have t:=η (show cS l (k+1)=cS l k by simp [cS,f]);have y:(ix l k==1)=false:=by simpa using f
          have J:decide (ix l k<0)=false:=ξ;have E:decide (most<ix l k)=false:=ξ
          go_wp2_with fail
          go_round
          case rel=>exact⟨k+1,ω,by go_num,by rw[x.out],by rw[t.out],z⟩
          case measure=>simp [intOf];omega
      · have a:=η (oO (most:=most) (show k<l.length by rw[<-d.out];exact r) ht);by_cases O:ix l k<0
        · go_wp2_with fail
          go_ret
          exact⟨aK a.out.symm,rfl⟩
        · have N:most<ix l k:=ω
          go_wp2_with fail
          go_ret
          exact⟨aK a.out.symm,rfl⟩
    · obtain rfl:n=k:=ω;have m:=η (show∀j,j<l.length->0<=ix l j/\ix l j<=most by rw[<-d.out];exact G.out);obtain⟨S,H⟩ :=ν (((sumTo l n:Nat):Int):Int);have b1:(0:Int)<=S/\S<=32768*(n:Int):=by have:=qF l n;omega
      have b:=η H;clear H;by_cases L:(32768:Int)<S
      · have a:=η (gQ q.out m.out (.inl (by rw[<-d.out];have:=b.out;omega)))
        go_wp2_with (go_at_call 77;refine(kQ _ _ _ _ _ _ g h).mono ?_;rintro e w' ⟨rfl,rfl⟩;rw[b.out])
        go_ret
        exact⟨aK a.out.symm,rfl⟩
      · have X:decide ((32768:Int)<S)=false:=by simpa using L
        by_cases K:S<32768
        · have C:aR l n=0\/(aR l n=1/\cS l n=1)\/(aR l n=1/\cS l n≠1)\/2<=aR l n:=ω;rcases C with hp | hp | hp | hp
          · skip
            have a:=η (ju (l:=l) (most:=most) q.out m.out (by rw[<-d.out,(kZ l n).2 ω];have:=b.out;simp;omega));have D:(((aR l n:Nat):Int)==0)=true:=ξ;clear hp v u
            go_wp2_with (go_at_call 77;refine(kQ _ _ _ _ _ _ g h).mono ?_;rintro e w' ⟨rfl,rfl⟩;rw[b.out])
            go_ret
            exact⟨aK a.out.symm,rfl⟩
          · skip
            have a:=η (ju (l:=l) (most:=most) q.out m.out (by rw[<-d.out,(kZ l n).2 ω];have:=b.out;simp;omega));have D:(((aR l n:Nat):Int)==0)=false:=ξ;have I:(((aR l n:Nat):Int)==1)=true:=ξ;have P:(((cS l n:Nat):Int)==1)=true:=ξ;clear hp v u
            go_wp2_with (go_at_call 77;refine(kQ _ _ _ _ _ _ g h).mono ?_;rintro e w' ⟨rfl,rfl⟩;rw[b.out])
            go_ret
            exact⟨aK a.out.symm,rfl⟩
          · skip
            have a:=η (gQ (l:=l) (most:=most) q.out m.out (.inr (by rw[<-d.out];exact⟨by have:=b.out;omega,by rw[<-Bool.not_eq_true,kZ];omega⟩)));have D:(((aR l n:Nat):Int)==0)=false:=ξ;have I:(((aR l n:Nat):Int)==1)=true:=ξ;have P:(((cS l n:Nat):Int)==1)=false:=ξ;clear hp v u
            go_wp2_with (go_at_call 77;refine(kQ _ _ _ _ _ _ g h).mono ?_;rintro e w' ⟨rfl,rfl⟩;rw[b.out])
            go_ret
            exact⟨aK a.out.symm,rfl⟩
          · skip
            have a:=η (gQ (l:=l) (most:=most) q.out m.out (.inr (by rw[<-d.out];exact⟨by have:=b.out;omega,by rw[<-Bool.not_eq_true,kZ];omega⟩)));have D:(((aR l n:Nat):Int)==0)=false:=ξ;have I:(((aR l n:Nat):Int)==1)=false:=ξ;clear hp v u
            go_wp2_with (go_at_call 77;refine(kQ _ _ _ _ _ _ g h).mono ?_;rintro e w' ⟨rfl,rfl⟩;rw[b.out])
            go_ret
            exact⟨aK a.out.symm,rfl⟩
        · have a:=η (ju q.out m.out (by rw[<-d.out];have:=b.out;omega))
          go_wp2_with (go_at_call 77;refine(kQ _ _ _ _ _ _ g h).mono ?_;rintro e w' ⟨rfl,rfl⟩;rw[b.out])
          go_ret
          exact⟨aK a.out.symm,rfl⟩
end Go.Proofs.YtddhegejmkgmjaaGreat
