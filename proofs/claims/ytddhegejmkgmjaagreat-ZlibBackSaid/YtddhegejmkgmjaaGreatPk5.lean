/-
  part
-/
import Derived.Test.YtddhegejmkgmjaaGreatPk1
import Derived.Laws.BitsAllLaws
import Derived.Laws.Bits64b
set_option linter.unusedVariables false
set_option maxRecDepth 100000
set_option maxHeartbeats 4000000
namespace Go.Proofs.YtddhegejmkgmjaaGreat
open Go Go.RowKit
theorem cK {a b:Nat} (h:a<=b):(2:Int) ^ a<=2 ^ b:=by
 obtain⟨k,rfl⟩ :=Nat.exists_eq_add_of_le h;rw[Int.pow_add];have:=two_pos k;have c:=two_pos a
 calc (2:Int) ^ a=2 ^ a*1:=ω
  _<=2 ^ a*2 ^ k:=Int.mul_le_mul_of_nonneg_left ω ω
theorem gq (n:Nat):((2 ^ n:Nat):Int)=2 ^ n:=σ
theorem Hr {x:Int} {n:Nat} (b:0<=x) (d:x<18446744073709551616) (a:n<=32):bits .and .u64 x (2 ^ n-1)=x%2 ^ n:=by
 obtain⟨X,rfl⟩ :=Int.eq_ofNat_of_zero_le b;have hp:(2:Nat) ^ n<=2 ^ 32:=Nat.pow_le_pow_right ω a;have c:0<(2:Nat) ^ n:=Nat.two_pow_pos n;have e:((2:Int) ^ n-1)=((2 ^ n-1:Nat):Int):=by rw[<-gq];omega
 rw[e,bits_and_u64_nat _ _ ω ω,Nat.and_two_pow_sub_one_eq_mod,<-gq];simp
theorem IJ {x y:Int} {k:Nat} (d:0<=x) (f:x<2 ^ k) (a:0<=y) (b:x+y*2 ^ k<18446744073709551616):bits .or .u64 x (y*2 ^ k)=x+y*2 ^ k:=by
 obtain⟨X,rfl⟩ :=Int.eq_ofNat_of_zero_le d;obtain⟨Y,rfl⟩ :=Int.eq_ofNat_of_zero_le a;rw[<-gq]at*;have c:X<2 ^ k:=ω;have e:((Y:Int)*((2 ^ k:Nat):Int))=((Y*2 ^ k:Nat):Int):=σ;rw[e]at b⊢;rw[bits_or_u64_nat _ _ ω ω,Nat.or_comm,Nat.mul_comm,<-Nat.two_pow_add_eq_or_of_lt c];simp;omega
def rb (B:List Int) (at_:Nat):List Int:=(bV B).drop at_
theorem dm (B:List Int) (a:Nat):(rb B a).length=8*B.length-a:=by simp [rb,bD]
theorem bc.rb (B:List Int) (a:Nat):bc (rb B a):=(bc.bV B).bu a
theorem yZ (a l:List Int) (k:Nat):(a++l).drop (a.length+k)=l.drop k:=by rw[List.drop_append,List.drop_eq_nil_of_le ω,List.nil_append,Nat.add_sub_cancel_left]
theorem uf (B:List Int) (k:Nat):bV (B.drop k)=(bV B).drop (8*k):=by
 induction k generalizing B with
 | zero=>rfl
 | succ k a=>
   cases B with
   | nil=>simp [bV]
   | cons b B=>rw[List.drop_succ_cons,a,bV,show 8*(k+1)=(aX b 8).length+8*k by rw[af];omega,yZ]
theorem fR (B:List Int) (a k:Nat):(rb B a).drop k=rb B (a+k):=by unfold rb;rw[List.drop_drop]
theorem C8 (B:List Int) {j:Nat} (a:j<B.length):((bV B).drop (8*j)).take 8=aX (ix B j) 8:=by
 rw[<-uf,List.drop_eq_getElem_cons a,bV,List.take_append_of_le_length (by rw[af];omega),List.take_of_length_le (by rw[af];omega)];simp [ix,a]
def ow (B:List Int) (a j:Nat):Int:=bW (((bV B).drop (8*a)).take (8*j))
theorem JK (B:List Int) (a:Nat):ow B a 0=0:=by unfold ow;rw[Nat.mul_zero,List.take_zero];rfl
theorem I6 (B:List Int) (a:Nat) {j:Nat} (b:j<=5):0<=ow B a j/\ow B a j<2 ^ (8*j)/\ow B a j<1099511627776:=by
 have h:=fy (((bc.bV B).bu (8*a)).oL (8*j));have d:=cK (show(((bV B).drop (8*a)).take (8*j)).length<=8*j by simp;omega);have c:=cK (show 8*j<=40 by omega);have h4:(2:Int) ^ 40=1099511627776:=rfl;unfold ow;omega
theorem JJ (B:List Int) (a:Nat) {j:Nat} (b:a+j<B.length) (c:∀x∈B,0<=x/\x<256):ow B a (j+1)=ow B a j+ix B (a+j)*2 ^ (8*j):=by
 unfold ow;rw[show 8*(j+1)=8*j+8 by omega,List.take_add,dX,List.drop_drop,show 8*a+8*j=8*(a+j) by omega,C8 B b,cP,List.length_take,List.length_drop,bD,Nat.min_eq_left ω,Int.mul_comm]
 have:0<=ix B (a+j)/\ix B (a+j)<256:=by
  unfold ix;rw[List.getD_eq_getElem?_getD,List.getElem?_eq_getElem b];exact c _ (List.getElem_mem b)
 rw[Int.emod_eq_of_lt this.1 (by have h:(2:Int) ^ 8=256:=rfl;omega)]
theorem Iz {B:List Int} (a:∀x∈B,0<=x/\x<256) (j:Nat):0<=ix B j/\ix B j<256:=by
 unfold ix;rw[List.getD_eq_getElem?_getD];cases h:B[j]? with
 | none=>simp
 | some v=>exact a v (List.mem_of_getElem? h)
theorem MU (B:List Int) {a r j n:Nat} (h:r+n<=8*j):ow B a j/2 ^ r%2 ^ n=bW ((rb B (8*a+r)).take n):=by
 unfold ow rb;have b:=((bc.bV B).bu (8*a)).oL (8*j);rw[<-oc b,<-xV (b.bu r),List.drop_take,List.take_take,List.drop_drop,Nat.min_eq_left ω]
def ym (s m x:Nat):Nat:=((x >>> s)&&& m)||| ((x&&& m) <<< s)
theorem IY (s m x i:Nat):(ym s m x).testBit i=((x.testBit (s+i)&&m.testBit i)||(decide (s<=i)&&(x.testBit (i-s)&&m.testBit (i-s)))):=by
 simp [ym,Nat.testBit_or,Nat.testBit_and,Nat.testBit_shiftRight,Nat.testBit_shiftLeft]
def ml (x:Nat):Nat:=
 let y:=ym 8 16711935 (ym 4 252645135 (ym 2 858993459 (ym 1 1431655765 x)))
 (y >>> 16)||| ((y <<< 16)%4294967296)
theorem a2B:∀j,j<32->Nat.testBit 1431655765 j=decide (j%2=0):=δ
theorem a2C:∀j,j<32->Nat.testBit 858993459 j=decide (j%4<2):=δ
theorem a2D:∀j,j<32->Nat.testBit 252645135 j=decide (j%8<4):=δ
theorem a2E:∀j,j<32->Nat.testBit 16711935 j=decide (j%16<8):=δ
theorem KL (x:Nat) (b:x<4294967296) {i:Nat} (hi:i<32):(ml x).testBit i=x.testBit (31-i):=by
 have a:∀j,32<=j->x.testBit j=false:=λj d=>Nat.testBit_lt_two_pow (Nat.lt_of_lt_of_le b (Nat.pow_le_pow_right (n:=2) ω d))
 have e:i=0\/i=1\/i=2\/i=3\/i=4\/i=5\/i=6\/i=7\/i=8\/i=9\/i=10\/i=11\/i=12\/i=13\/i=14\/i=15\/i=16\/i=17\/i=18\/i=19\/i=20\/i=21\/i=22\/i=23\/i=24\/i=25\/i=26\/i=27\/i=28\/i=29\/i=30\/i=31:=ω;have c:(4294967296:Nat)=2 ^ 32:=rfl;unfold ml;rw[c];simp only [Nat.testBit_or,Nat.testBit_shiftRight,Nat.testBit_mod_two_pow,Nat.testBit_shiftLeft];rcases e with rfl | rfl | rfl | rfl | rfl | rfl | rfl | rfl | rfl | rfl | rfl | rfl | rfl | rfl | rfl | rfl | rfl | rfl | rfl | rfl | rfl | rfl | rfl | rfl | rfl | rfl | rfl | rfl | rfl | rfl | rfl | rfl
 all_goals
  simp [IY,a,a2B,a2C,a2D,a2E, -Nat.testBit_zero]
theorem Pf (x:Nat) (d:x<4294967296):ml x<4294967296:=by
 have b:(4294967296:Nat)=2 ^ 32:=rfl;rw[b];refine Nat.lt_pow_two_of_testBit _ λi hi=> ?_
 have h:∀j,32<=j->x.testBit j=false:=λj a=>Nat.testBit_lt_two_pow (Nat.lt_of_lt_of_le d (Nat.pow_le_pow_right (n:=2) ω a))
 have c:∀M:Nat,M<4294967296->∀j,32<=j->M.testBit j=false:=λM f j a=>Nat.testBit_lt_two_pow (Nat.lt_of_lt_of_le f (Nat.pow_le_pow_right (n:=2) ω a))
 unfold ml;rw[b];simp only [Nat.testBit_or,Nat.testBit_shiftRight,Nat.testBit_mod_two_pow,Nat.testBit_shiftLeft];have e:¬i<32:=ω;simp only [e,decide_false,Bool.false_and,Bool.or_false];by_cases g:i<48-16
 · omega
 · rw[IY];by_cases k:40<=16+i
   · rw[c 16711935 ω (16+i) ω];rw[c 16711935 ω (16+i-8) ω];simp
   · omega
theorem Ov (v:Int) (n:Nat) {i:Nat} (hi:i<n):ix (aX v n) i=v/2 ^ i%2:=by
 induction n generalizing v i with
 | zero=>omega
 | succ n a=>
   cases i with
   | zero=>simp [aX,ix]
   | succ i=>
     have:ix (aX v (n+1)) (i+1)=ix (aX (v/2) n) i:=by simp [aX,ix]
     rw[this,a (v/2) ω,Int.pow_succ,Int.mul_comm,Int.ediv_ediv_of_nonneg ω]
def Dw (v:Int) (n:Nat):Int:=bW (aX v n).reverse
theorem Hv (x i:Nat):((x:Int)/2 ^ i%2)=if x.testBit i then 1 else 0:=by
 have:((x:Int)/2 ^ i%2)=((x/2 ^ i%2:Nat):Int):=by rw[<-gq];simp
 rw[this,Nat.testBit_eq_decide_div_mod_eq];have:=Nat.mod_two_eq_zero_or_one (x/2 ^ i);rcases this with h | h <;> simp [h]
theorem VJ {a b:List Int} (d:a.length=b.length) (h:∀i,i<a.length->ix a i=ix b i):a=b:=by
 apply List.ext_getElem d
 intro i c e;have:=h i c
 simpa [ix,c,e] using this
theorem Y5 (x n:Nat) (b:x<4294967296) (j:n<=32):Dw x n=((ml x/2 ^ (32-n):Nat):Int):=by
 have f:=Pf x b
 have a:ml x/2 ^ (32-n)<2 ^ n:=by
  rw[Nat.div_lt_iff_lt_mul (Nat.two_pow_pos _),<-Nat.pow_add,show n+(32-n)=32 by omega];exact f
 have e:(aX x n).reverse=aX ((ml x/2 ^ (32-n):Nat):Int) n:=by
  refine VJ (by simp [af]) λi hi=> ?_
  have c:i<n:=by simpa [af] using hi
  rw[Ov _ _ c,Hv]
  have h:ix (aX x n).reverse i=ix (aX x n) (n-1-i):=by
   have g:n-1-i<(aX x n).length:=by rw[af];omega
   simp [ix,af,c]
   rw[List.getElem?_eq_getElem g];rfl
  rw[h,Ov _ _ ω,Hv,<-Nat.shiftRight_eq_div_pow,Nat.testBit_shiftRight,KL x b ω,show 31-(32-n+i)=n-1-i by omega]
 unfold Dw;rw[e,cP];obtain⟨y,d⟩ :=ν (ml x/2 ^ (32-n));rw[d]at a⊢;rw[<-gq,Int.emod_eq_of_lt ω ω]
def aM (l:List Int) (s:Nat):List Int:=aX (Dw (bQ l s) (ix l s).toNat) (ix l s).toNat
theorem Pg (V:Int) (N:Nat):0<=Dw V N/\Dw V N<2 ^ N:=by
 have h:bc (aX V N).reverse:=λx a=>bc.aX V N x (List.mem_reverse.1 a)
 have:=fy h
 rwa [List.length_reverse,af]at this
end Go.Proofs.YtddhegejmkgmjaaGreat
