/-
  part
-/
import Derived.Test.YtgiimmkmjpbecaaGreatIxb
import Derived.Test.YtgiimmkmjpbecaaGreatStepT
import Derived.Handy
namespace Go.Proofs.YtgiimmkmjpbecaaGreat
open Go.RowKit
set_option linter.unusedVariables false
set_option maxRecDepth 100000
set_option maxHeartbeats 4000000
theorem Bz (w:World) (B n c:Nat) (A:ax) (l:ag) (o:bT .u8 w B A n l) (D:n<=4) (p:∀x∈l,0<=x/\x<256):
  Calls Tryz.prog 36 #[.slice A n c] w λe w'=>e= .returned (.int .i64 (rK l))/\w'=w:=by
 have m:=η o.1
 go_in
 go_wp2;go_loop [3,4] (λx i=>∃(k:Nat) (v:Int),k<=n/\i= .int .i64 ((k:Int)-1)/\x= .int .i64 v/\0<=v/\v<4294967296/\Hid (v=rK (l.drop k))) (λ_ i=>((intOf i)+1).toNat)
 case atStart=>exact⟨n,0,af _,by go_num,rfl,ω,ω,by show _=_;rw[cV (by rw[<-m.out];exact af _)];rfl⟩
 obtain⟨k,v,E,rfl,rfl,r,C,HV⟩ :=hrel;by_cases s:0<k
 rotate_left
 · obtain rfl:k=0:=ω;go_wp2;go_ret;exact⟨bJ (by rw[HV.out];rfl),rfl⟩
 obtain⟨j,rfl⟩ :∃j,k=j+1:= ⟨k-1,ω⟩;obtain⟨F,rfl,_,u⟩ :=o.at_ (i:=j) ω;have y:=tq p j
 have d:rK (l.drop j)=ix l j+256*rK (l.drop (j+1)):=by
  have a:j<l.length:=by rw[<-m.out];omega
  rw[bQ a];show l[j]+_=_;simp [ix,a]
 have g:=Wf (Oz p j)
 have q:(256:Int) ^ (l.drop j).length<=4294967296:=by
  have a:(l.drop j).length<=4:=by rw[ay,<-m.out];omega
  obtain h | h | h | h | h:(l.drop j).length=0\/(l.drop j).length=1\/(l.drop j).length=2\/(l.drop j).length=3\/(l.drop j).length=4:=ω;all_goals rw[h];decide
 rw[d,<-HV.out]at g;replace g:0<=ix l j+256*v/\ix l j+256*v<4294967296:= ⟨g.1,Int.lt_of_lt_of_le g.2 q⟩;obtain⟨b,f⟩ :=ν (ix l j:Int);rw[f]at u y d g;rw[<-HV.out]at d;have d:=η d;clear f q;have z:((j+1:Nat):Int)-1=j:=ω;rw[z];have t:(0:Int)<=j/\(j:Int)<n/\(n:Int)<=4:=ω;go_wp2
 go_round
 case rel=>exact⟨j,_,ω,by go_num,rfl,ω,ω,by show _=_;rw[d.out];omega⟩
 case measure=>simp [intOf]
end Go.Proofs.YtgiimmkmjpbecaaGreat
