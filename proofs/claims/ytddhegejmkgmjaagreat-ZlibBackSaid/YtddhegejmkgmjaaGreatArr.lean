/-
  part
-/
import Derived.Test.YtddhegejmkgmjaaGreatProg
import Derived.Great.BuildSlice
import Derived.Great.Walk
import Derived.Deep.WholeRow
import Derived.OwnWalk
namespace Go.Proofs.YtddhegejmkgmjaaGreat
open Go.RowKit
set_option linter.unusedVariables false
set_option maxRecDepth 100000
set_option maxHeartbeats 4000000
theorem GY {P:Program} {d:Array Oper} {rest:List Oper} {k j i:Oper} {a:Act} {w:World} {Q:Exit->Act->World->Prop} (t e:TypeId) (n:Nat) (parts:Array (Nat×Operand)) (zs:List Int) (c b:Tmp)
  (p:k.guard=none) (y:k.op= .build t parts) (A:k.dst=some c) (o:j.guard=none) (v:j.op= .alloc t) (z:j.dst=some b) (m:i.guard=none) (u:i.op= .store t (.tmp b) (.tmp c)) (ru:i.dst=none)
  (r:P.underlying t=some (.array n e)) (l:(P.info? e).map (·.size)=some 1) (it:TypeInfo) (hit:P.info? t=some it) (g:Array Value) (q:it.zero=some (.agg g)) (f:g.size=zs.length) (Ij:it.size=zs.length)
  (s:parts.toList=(zs.zipIdx 0).map λx=>(x.2,Operand.const (Value.int .i64 x.1)))
  (hp:(((a.put (some c) (.agg (zs.map (Value.int .i64)).toArray)).put (some b) (.pointer (some ⟨w.heap.size,0,none⟩))).eval (.tmp b))= .pointer (some ⟨w.heap.size,0,none⟩))
  (B:(((a.put (some c) (.agg (zs.map (Value.int .i64)).toArray)).put (some b) (.pointer (some ⟨w.heap.size,0,none⟩))).eval (.tmp c))= .agg (zs.map (Value.int .i64)).toArray)
  (h:wpList P d Q rest ((a.put (some c) (.agg (zs.map (Value.int .i64)).toArray)).put (some b) (.pointer (some ⟨w.heap.size,0,none⟩))) (w.alloc (.cells (zs.map (Value.int .i64)).toArray t))):wpList P d Q (k::j::i::rest) a w:=by
 refine wpList_buildFlatArrTo p t e n parts y .i64 zs (some c) A r l (by rw[hit];simp [q,Value.cells,f]) s ?_;refine Great.wpList_allocTo o (some b) z (.pointer (some ⟨w.heap.size,0,none⟩)) (.cells g t) ?_ ?_
 · unfold execOp;simp [v]
   simp [Instr.alloc,newVar,newRow,zeroValue,typeInfo,hit,q,Value.cells]
 · refine wpList_store_rowTo m t (.tmp b) (.tmp c) u ru w.heap.size (zs.map (Value.int .i64)).toArray hp B t g (by show(w.heap.push _)[w.heap.size]?=_;simp) (by rw[hit];simp [Ij]) (by simp [f]) (by simp [Value.oneCell']) ?_;rw[World.setRow_alloc_new];exact h
end Go.Proofs.YtddhegejmkgmjaaGreat
