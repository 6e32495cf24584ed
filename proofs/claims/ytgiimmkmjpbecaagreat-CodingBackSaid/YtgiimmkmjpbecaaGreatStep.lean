/-
  part
-/
import Derived.Test.YtgiimmkmjpbecaaGreatPk3
import Derived.Deep.RegionHeld3
namespace Go.Proofs.YtgiimmkmjpbecaaGreat
open Go.RowKit
set_option linter.unusedVariables false
set_option maxRecDepth 100000
set_option maxHeartbeats 4000000
section
variable {P:Program} {w:World}
theorem eK {f:Array Oper} {o:Oper} {a:Act} {K:Act->World->Prop} {Q:Exit->Act->World->Prop} {E:Prop} (k:IntKind) (b0:Nat) (e:TypeId) (i:TypeInfo) (bytes:Nat) (p:Region.wanted o (yielded f a.tmps)=true) (s x:Operand) (t:TypeId)
  (z:o.op= .call { callee:= .builtin .append,args:= #[s,x],argTypes:= #[t,t] }) (ht:P.underlying t=some (.slice e)) (hi:P.info? e=some i) (hz:i.zero=some (.int k 0))
  (b:i.size=1) (q:i.bytes=bytes) {A:ax} {n c:Nat} {l:ag} (v:a.eval s= .slice A n c) (j:aT k w b0 e A n c l)
  {B:Nat} {A':ax} {m c':Nat} {l':ag} (u:a.eval x= .slice A' m c') (y:bT k w B A' m l')
  (r:n+m<=1000000000000) (C:bytes<=100) (d:b0<=w.heap.size)
  (h:∀A2 c2 w2,aT k w2 b0 e A2 (n+m) c2 (l++l')->w.grownBy w2 (ai A)->(ai A2=ai A\/ai A2=some w.heap.size)->K (a.put o.dst (.slice A2 (n+m) c2)) w2):
  if Region.wanted o (yielded f a.tmps)=true then Oper.wp P o a w K Q else E:=by
 rw[aa p];obtain⟨A2,c2,w2,g,F,D,h4⟩ :=Gt (P:=P) (w:=w) k b0 t o.type e i bytes ht hi hz b q j (c':=c') y r C d;unfold Oper.wp execOp;simp only [z,resolve,invoke,builtin,Sem.run_bind,Sem.run_pure,Result.andThen_ok,List.map_toArray,List.map_cons,List.map_nil,v,u,g];exact h A2 c2 w2 F D h4
end
end Go.Proofs.YtgiimmkmjpbecaaGreat
