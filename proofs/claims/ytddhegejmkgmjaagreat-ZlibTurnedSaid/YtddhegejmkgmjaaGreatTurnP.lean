/-
  part
-/
import Derived.Test.YtddhegejmkgmjaaGreatPk1
import Derived.Laws.BitsAllLaws
namespace Go.Proofs.YtddhegejmkgmjaaGreat
open Go.RowKit
set_option linter.unusedVariables false
set_option maxRecDepth 100000
set_option maxHeartbeats 4000000
theorem Tg (a b:Int):0<=bits .xor .u8 a b/\bits .xor .u8 a b<256:=by
 show 0<=IntKind.u8.wrap _/\IntKind.u8.wrap _<256
 rw[IntKind.wrap_u8];omega
theorem Th {a b:Int} (d:0<=a/\a<256) (c:0<=b/\b<256) (g:b≠0):bits .xor .u8 a b≠a:=by
 rw[u8_xor a b d.1 d.2 c.1 c.2];intro h;have f:a.toNat ^^^ b.toNat=a.toNat:=ω;have e:a.toNat ^^^ (a.toNat ^^^ b.toNat)=a.toNat ^^^ a.toNat:=by rw[f]
 rw[<-Nat.xor_assoc,Nat.xor_self,Nat.zero_xor]at e;omega
end Go.Proofs.YtddhegejmkgmjaaGreat
