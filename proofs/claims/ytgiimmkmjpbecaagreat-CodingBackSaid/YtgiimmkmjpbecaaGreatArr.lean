/-
  part
-/
import Derived.Test.YtgiimmkmjpbecaaGreatProg
import Derived.Great.BuildSlice
import Derived.Great.Walk
import Derived.Deep.WholeRow
import Derived.OwnWalk
namespace Go.Proofs.YtgiimmkmjpbecaaGreat
open Go.RowKit
set_option linter.unusedVariables false
set_option maxRecDepth 100000
set_option maxHeartbeats 4000000
theorem NS {P:Program} {d:Array Oper} {rest:List Oper} {k j i:Oper} {a:Act} {w:World} {Q:Exit->Act->World->Prop} (t e:TypeId) (n:Nat) (parts:Array (Nat×Operand)) (zs:List Int) (c b:Tmp)
  (q:k.guard=none) (v:k.op= .build t parts) (z:k.dst=some c) (p:j.guard=none) (u:j.op= .alloc t) (y:j.dst=some b) (o:i.guard=none) (s:i.op= .store t (.tmp b) (.tmp c)) (xW:i.dst=none)
  (r:P.underlying t=some (.array n e)) (l:(P.info? e).map (·.size)=some 1) (it:TypeInfo) (hit:P.info? t=some it) (g:Array Value) (hz:it.zero=some (.agg g)) (f:g.size=zs.length) (OW:it.size=zs.length)
  (m:parts.toList=(zs.zipIdx 0).map λx=>(x.2,Operand.const (Value.int .i64 x.1)))
  (hp:(((a.put (some c) (.agg (zs.map (Value.int .i64)).toArray)).put (some b) (.pointer (some ⟨w.heap.size,0,none⟩))).eval (.tmp b))= .pointer (some ⟨w.heap.size,0,none⟩))
  (A:(((a.put (some c) (.agg (zs.map (Value.int .i64)).toArray)).put (some b) (.pointer (some ⟨w.heap.size,0,none⟩))).eval (.tmp c))= .agg (zs.map (Value.int .i64)).toArray)
  (h:wpList P d Q rest ((a.put (some c) (.agg (zs.map (Value.int .i64)).toArray)).put (some b) (.pointer (some ⟨w.heap.size,0,none⟩))) (w.alloc (.cells (zs.map (Value.int .i64)).toArray t))):wpList P d Q (k::j::i::rest) a w:=by
 refine wpList_buildFlatArrTo q t e n parts v .i64 zs (some c) z r l (by rw[hit];simp [hz,Value.cells,f]) m ?_;refine Great.wpList_allocTo p (some b) y (.pointer (some ⟨w.heap.size,0,none⟩)) (.cells g t) ?_ ?_
 · unfold execOp;simp [u];simp [Instr.alloc,newVar,newRow,zeroValue,typeInfo,hit,hz,Value.cells]
 refine wpList_store_rowTo o t (.tmp b) (.tmp c) s xW w.heap.size (zs.map (Value.int .i64)).toArray hp A t g (by show(w.heap.push _)[w.heap.size]?=_;simp) (by rw[hit];simp [OW]) (by simp [f]) (by simp [Value.oneCell']) ?_;rw[World.setRow_alloc_new];exact h
end Go.Proofs.YtgiimmkmjpbecaaGreat
