/-
  An array literal of integers as a local variable: built, laid, stored, in one step.
-/
import Derived.Test.YtckhkkjdibcclaaProg
import Derived.Great.BuildSlice
import Derived.Great.Walk
import Derived.Deep.WholeRow
import Derived.OwnWalk
namespace Go.Proofs.Ytckhkkjdibcclaa
open Go.RowKit
set_option linter.unusedVariables false
theorem wpList_arr {P : Program} {ops : Array Oper} {rest : List Oper} {o1 o2 o3 : Oper} {a : Act} {w : World} {Q : Exit → Act → World → Prop} (t e : TypeId) (n : Nat) (parts : Array (Nat × Operand)) (zs : List Int) (tb tp : Tmp)
    (hg1 : o1.guard = none) (ho1 : o1.op = .build t parts) (hd1 : o1.dst = some tb) (hg2 : o2.guard = none) (ho2 : o2.op = .alloc t) (hd2 : o2.dst = some tp) (hg3 : o3.guard = none) (ho3 : o3.op = .store t (.tmp tp) (.tmp tb)) (hd3 : o3.dst = none)
    (hu : P.underlying t = some (.array n e)) (hsz : (P.info? e).map (·.size) = some 1) (it : TypeInfo) (hit : P.info? t = some it) (zc : Array Value) (hz : it.zero = some (.agg zc)) (hzs : zc.size = zs.length) (his : it.size = zs.length)
    (hparts : parts.toList = (zs.zipIdx 0).map fun x => (x.2, Operand.const (Value.int .i64 x.1)))
    (hp : (((a.put (some tb) (.agg (zs.map (Value.int .i64)).toArray)).put (some tp) (.pointer (some ⟨w.heap.size, 0, none⟩))).eval (.tmp tp)) = .pointer (some ⟨w.heap.size, 0, none⟩))
    (hb : (((a.put (some tb) (.agg (zs.map (Value.int .i64)).toArray)).put (some tp) (.pointer (some ⟨w.heap.size, 0, none⟩))).eval (.tmp tb)) = .agg (zs.map (Value.int .i64)).toArray)
    (h : wpList P ops Q rest ((a.put (some tb) (.agg (zs.map (Value.int .i64)).toArray)).put (some tp) (.pointer (some ⟨w.heap.size, 0, none⟩))) (w.alloc (.cells (zs.map (Value.int .i64)).toArray t))) : wpList P ops Q (o1 :: o2 :: o3 :: rest) a w := by
  refine wpList_buildFlatArrTo hg1 t e n parts ho1 .i64 zs (some tb) hd1 hu hsz (by rw [hit]; simp [hz, Value.cells, hzs]) hparts ?_
  refine Great.wpList_allocTo hg2 (some tp) hd2 (.pointer (some ⟨w.heap.size, 0, none⟩)) (.cells zc t) ?_ ?_
  · unfold execOp
    simp [ho2]
    simp [Instr.alloc, newVar, newRow, zeroValue, typeInfo, hit, hz, Value.cells]
  · refine wpList_store_rowTo hg3 t (.tmp tp) (.tmp tb) ho3 hd3 w.heap.size (zs.map (Value.int .i64)).toArray hp hb t zc (by show (w.heap.push _)[w.heap.size]? = _; simp) (by rw [hit]; simp [his]) (by simp [hzs]) (by simp [Value.oneCell']) ?_
    rw [World.setRow_alloc_new]
    exact h
end Go.Proofs.Ytckhkkjdibcclaa
