/-
  part
-/
import Derived.Test.YtddhegejmkgmjaaGreatProg
import Derived.Test.YtddhegejmkgmjaaGreatPk5
namespace Go.Proofs.YtddhegejmkgmjaaGreat
open Go.RowKit
set_option linter.unusedVariables false
set_option maxRecDepth 100000
set_option maxHeartbeats 4000000
theorem Yc {s m x:Nat} (c:m*2 ^ s<4294967296) (h:x<4294967296) (b:m<4294967296):(x/2 ^ s)&&& m<4294967296/\(x&&& m)*2 ^ s<4294967296:=by
 have e:(x/2 ^ s)&&& m<=m:=Nat.and_le_right;have a:x&&& m<=m:=Nat.and_le_right;have d:(x&&& m)*2 ^ s<=m*2 ^ s:=Nat.mul_le_mul_right _ a;omega
theorem DU {s m x:Nat} (d:m*2 ^ s<4294967296) (h:x<4294967296) (a:m<4294967296):
  bits .and .u32 ((x/2 ^ s:Nat):Int) (m:Int)=(((x/2 ^ s)&&& m:Nat):Int)/\bits .and .u32 (x:Int) (m:Int)=((x&&& m:Nat):Int)/\
  IntKind.u32.wrap (((x&&& m:Nat):Int)*((2 ^ s:Nat):Int))=(((x&&& m)*2 ^ s:Nat):Int)/\bits .or .u32 (((x/2 ^ s)&&& m:Nat):Int) (((x&&& m)*2 ^ s:Nat):Int)=(ym s m x:Int)/\ym s m x<4294967296:=by
 obtain⟨c,b⟩ :=Yc d h a;have hd:x/2 ^ s<4294967296:=Nat.lt_of_le_of_lt (Nat.div_le_self _ _) h;refine⟨u32_and_nat _ _ hd a,u32_and_nat _ _ h a, ?_, ?_, ?_⟩
 · rw[IntKind.wrap_u32,<-Int.natCast_mul];omega
 · rw[u32_or_nat _ _ c b];unfold ym;rw[Nat.shiftRight_eq_div_pow,Nat.shiftLeft_eq]
 · unfold ym;rw[Nat.shiftRight_eq_div_pow,Nat.shiftLeft_eq];exact Nat.or_lt_two_pow (n:=32) c b
theorem AW (w:World) (x:Nat) (h:x<4294967296):Calls Tryz.prog 136 #[.int .u32 x] w λe w'=>e= .returned (.int .u32 (((ym 8 16711935 x >>> 16)||| ((ym 8 16711935 x <<< 16)%4294967296):Nat):Int))/\w=w':=by
 obtain⟨c,k,b,a,B⟩ :=DU (s:=8) (m:=16711935) (x:=x) δ h δ;obtain⟨y,i⟩ :=ν (ym 8 16711935 x);have A:(x:Int)/256=((x/2 ^ 8:Nat):Int):=ω;obtain⟨p,hp⟩ :=ν (x/2 ^ 8);rw[hp]at A c a;obtain⟨q,o⟩ :=ν (p&&& 16711935);obtain⟨r,n⟩ :=ν (x&&& 16711935);rw[o]at c a;rw[n]at k b a;obtain⟨u,l⟩ :=ν (r*2 ^ 8);rw[l]at b a;rw[i]at a B;have c1:bits .and .u32 (p:Int) 16711935=(q:Int):=c;have c2:bits .and .u32 (x:Int) 16711935=(r:Int):=k;have E:((r:Int)*256)%4294967296=(u:Int):=by rw[<-b,IntKind.wrap_u32];rfl
 have D:bits .or .u32 (q:Int) (u:Int)=(y:Int):=a;have d1:(y:Int)/65536=((y/65536:Nat):Int):=ω;have d2:((y:Int)*65536)%4294967296=((y*65536%4294967296:Nat):Int):=ω;have d3:bits .or .u32 ((y/65536:Nat):Int) ((y*65536%4294967296:Nat):Int)=((y/65536||| y*65536%4294967296:Nat):Int):=u32_or_nat _ _ ω ω;obtain⟨d,hd⟩ :=ν (y/65536);obtain⟨f,j⟩ :=ν (y*65536%4294967296);rw[hd]at d1 d3;rw[j]at d2 d3;obtain⟨z,g⟩ :=ν (d||| f);rw[g]at d3
 have C:Hid (((y >>> 16)||| ((y <<< 16)%4294967296))=z):=by
  show _=_
  rw[Nat.shiftRight_eq_div_pow,Nat.shiftLeft_eq,<-g,<-hd,<-j]
 rw[i];have v:(0:Int)<=x/\(x:Int)<4294967296:=ω;have t:(0:Int)<=y/\(y:Int)<4294967296:=ω;clear c k b a i hp o n l hd j g;go_enter Tryz.func136,Tryz.ntmps136
 go_wp2
 go_ret
 exact⟨aK (by rw[C.out]),rfl⟩
theorem rT (s m x:Nat) (P M:Int) (a:P=((2 ^ s:Nat):Int)) (b:M=(m:Int)) (d:m*2 ^ s<4294967296) (h:x<4294967296) (c:m<4294967296):
  ∃p q r u:Nat,(x:Int)/P=(p:Int)/\bits .and .u32 (p:Int) M=(q:Int)/\bits .and .u32 (x:Int) M=(r:Int)/\((r:Int)*P)%4294967296=(u:Int)/\bits .or .u32 (q:Int) (u:Int)=(ym s m x:Int)/\ym s m x<4294967296:=by
 obtain⟨j,i,g,f,e⟩ :=DU d h c;refine⟨x/2 ^ s,(x/2 ^ s)&&& m,x&&& m,(x&&& m)*2 ^ s, ?_,by rw[b];exact j,by rw[b];exact i, ?_,f,e⟩
 · rw[a];simp
 · rw[a,<-g,IntKind.wrap_u32]
theorem KJ (w:World) (x:Nat) (h:x<4294967296):Calls Tryz.prog 129 #[.int .u32 x] w λe w'=>e= .returned (.int .u32 (ml x:Int))/\w=w':=by
 obtain⟨z,u,r,u1,J,I,H,G,n,k⟩ :=rT 1 1431655765 x 2 1431655765 rfl rfl δ h δ;obtain⟨g,c⟩ :=ν (ym 1 1431655765 x);rw[c]at n k;obtain⟨y,t,q,u2,b1,F,E,D,m,j⟩ :=rT 2 858993459 g 4 858993459 rfl rfl δ k δ;obtain⟨f,b⟩ :=ν (ym 2 858993459 g);rw[b]at m j;obtain⟨v,s,p,u3,c1,c2,C,B,l,i⟩ :=rT 4 252645135 f 16 252645135 rfl rfl δ j δ;obtain⟨d,a⟩ :=ν (ym 4 252645135 f);rw[a]at l i
 have o:Hid (ml x=(ym 8 16711935 d >>> 16)||| ((ym 8 16711935 d <<< 16)%4294967296)):=by
  show _=_
  unfold ml;rw[c,b,a]
 have A:(0:Int)<=x/\(0:Int)<=g/\(0:Int)<=f/\(0:Int)<=d:=ω;clear c b a;go_enter Tryz.func129,Tryz.ntmps129
 go_wp2_with fail
 refine(AW _ d i).mono ?_;rintro e w' ⟨rfl,rfl⟩;go_wp2
 go_ret
 exact⟨aK (by rw[o.out]),rfl⟩
theorem GC (w:World) (V:Int) (N:Nat) (g:0<=V/\V<4294967296) (h:1<=(N:Int)/\(N:Int)<=32):Calls Tryz.prog 110 #[.int .u32 V, .int .i64 N] w λe w'=>e= .returned (.int .u32 (Dw V N))/\w=w':=by
 obtain⟨x,rfl⟩ :=Int.eq_ofNat_of_zero_le g.1;have d:x<4294967296:=ω;have o:¬(N:Int)<1/\¬32<(N:Int):=ω;obtain⟨M,f⟩ :=ν (32-N:Nat);have i:(32:Int)-(N:Int)=(M:Int):=ω;have a:=Y5 x N d ω;rw[f]at a;obtain⟨y,c⟩ :=ν (ml x);rw[c]at a;have k:(y:Int)/2 ^ M=((y/2 ^ M:Nat):Int):=by rw[<-gq];simp
 have n:=η a;have m:=η c;have j:(0:Int)<=M:=ω;obtain⟨z,b⟩ :=ν (y/2 ^ M);rw[b]at k;have l:=η b;clear a c f b;go_enter Tryz.func110,Tryz.ntmps110
 go_wp2_with fail
 refine(KJ _ x d).mono ?_;rintro e w' ⟨rfl,rfl⟩;rw[m.out];go_wp2
 go_ret
 exact⟨aK (by rw[n.out,l.out]),rfl⟩
end Go.Proofs.YtddhegejmkgmjaaGreat
