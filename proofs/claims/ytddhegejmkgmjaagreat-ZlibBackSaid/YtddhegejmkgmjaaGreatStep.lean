/-
  part
-/
import Derived.Test.YtddhegejmkgmjaaGreatPk3
import Derived.Deep.RegionHeld3
namespace Go.Proofs.YtddhegejmkgmjaaGreat
open Go.RowKit
set_option linter.unusedVariables false
set_option maxRecDepth 100000
set_option maxHeartbeats 4000000
section
variable {P:Program} {w:World}
theorem dv {g:Array Oper} {o:Oper} {a:Act} {K:Act->World->Prop} {Q:Exit->Act->World->Prop} {E:Prop} (k:IntKind) (b0:Nat) (e:TypeId) (i:TypeInfo) (bytes:Nat) (q:Region.wanted o (yielded g a.tmps)=true) (s x:Operand) (t:TypeId)
  (D:o.op= .call { callee:= .builtin .append,args:= #[s,x],argTypes:= #[t,t] }) (ht:P.underlying t=some (.slice e)) (hi:P.info? e=some i) (v:i.zero=some (.int k 0))
  (b:i.size=1) (r:i.bytes=bytes) {A:Option Addr} {n c:Nat} {l:List Int} (z:a.eval s= .slice A n c) (p:ag k w b0 e A n c l)
  {B:Nat} {A':Option Addr} {m c':Nat} {l':List Int} (y:a.eval x= .slice A' m c') (C:aT k w B A' m l')
  (u:n+m<=1000000000000) (F:bytes<=100) (d:b0<=w.heap.size)
  (h:∀f c2 w2,ag k w2 b0 e f (n+m) c2 (l++l')->w.grownBy w2 (aa A)->(aa f=aa A\/aa f=some w.heap.size)->K (a.put o.dst (.slice f (n+m) c2)) w2):
  if Region.wanted o (yielded g a.tmps)=true then Oper.wp P o a w K Q else E:=by
 rw[if_pos q];obtain⟨f,c2,w2,j,H,G,h4⟩ :=B3 (P:=P) (w:=w) k b0 t o.type e i bytes ht hi v b r p (c':=c') C u F d;unfold Oper.wp execOp;simp only [D,resolve,invoke,builtin,Sem.run_bind,Sem.run_pure,Result.andThen_ok,List.map_toArray,List.map_cons,List.map_nil,z,y,j];exact h f c2 w2 H G h4
end
end Go.Proofs.YtddhegejmkgmjaaGreat
