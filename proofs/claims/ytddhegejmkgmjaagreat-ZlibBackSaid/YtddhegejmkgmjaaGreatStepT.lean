/-
  part
-/
import Derived.Test.YtddhegejmkgmjaaGreatStep
import Derived.Test.YtddhegejmkgmjaaGreatPk4
namespace Go.Proofs.YtddhegejmkgmjaaGreat
open Go.RowKit
set_option linter.unusedVariables false
set_option maxRecDepth 100000
set_option maxHeartbeats 4000000
section
variable {w:World}
theorem yj {g:Array Oper} {o:Oper} {a:Act} {K:Act->World->Prop} {Q:Exit->Act->World->Prop} {E:Prop} (b0:Nat) (i:TypeInfo) (p:Region.wanted o (yielded g a.tmps)=true) (s x:Operand)
  (z:o.op= .call { callee:= .builtin .append,args:= #[s,x],argTypes:= #[53, 53] }) (hi:Tryz.prog.info? 90 =some i) (u:i.zero=some (.agg #[.int .u8 0, .int .i64 0, .int .i64 0]))
  (d:i.size=3) (q:i.bytes=24) {A:Option Addr} {n c:Nat} {l:List aF} (y:a.eval s= .slice A n c) (b:fl w b0 A n c l)
  {B:Nat} {A':Option Addr} {m c':Nat} {l':List aF} (v:a.eval x= .slice A' m c') (t:ig w B A' m l')
  (r:n+m<=1000000000000) (e:b0<=w.heap.size)
  (h:∀f c2 w2,fl w2 b0 f (n+m) c2 (l++l')->w.grownBy w2 (aa A)->(aa f=aa A\/aa f=some w.heap.size)->K (a.put o.dst (.slice f (n+m) c2)) w2):
  if Region.wanted o (yielded g a.tmps)=true then Oper.wp Tryz.prog o a w K Q else E:=by
 rw[if_pos p];obtain⟨f,c2,w2,k,D,C,h4⟩ :=fj (P:=Tryz.prog) w b0 53 o.type 90 i _ 3 24 Tryz.underlying53 hi u d q rfl ω A n c _ b.2 B A' m c' _ t.rd (λj _=>E8 l' j) r ω e;unfold Oper.wp execOp;simp only [z,resolve,invoke,builtin,Sem.run_bind,Sem.run_pure,Result.andThen_ok,List.map_toArray,List.map_cons,List.map_nil,y,v,k];exact h f c2 w2 ⟨by rw[List.length_append,<-b.1,<-t.1],D.congr λj F=>by rw[b.1,E6]⟩ C h4
end
end Go.Proofs.YtddhegejmkgmjaaGreat
