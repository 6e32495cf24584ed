/-
  The law of append in a region whose order is open.
-/
import Derived.Test.YtlgkiookobedcaaPk3
import Derived.Deep.RegionHeld3
namespace Go.Proofs.Ytlgkiookobedcaa
open Go.RowKit
set_option linter.unusedVariables false
section
variable {P : Program} {w : World}
theorem step_app {ops : Array Oper} {o : Oper} {a : Act} {K : Act → World → Prop} {Q : Exit → Act → World → Prop} {E : Prop} (k : IntKind) (b0 : Nat) (e : TypeId) (i : TypeInfo) (bytes : Nat) (hgd : Region.wanted o (yielded ops a.tmps) = true) (s x : Operand) (t : TypeId)
    (ho : o.op = .call { callee := .builtin .append, args := #[s, x], argTypes := #[t, t] }) (ht : P.underlying t = some (.slice e)) (hi : P.info? e = some i) (hz : i.zero = some (.int k 0))
    (hsize : i.size = 1) (hby : i.bytes = bytes) {A : Option Addr} {n c : Nat} {l : List Int} (hs : a.eval s = .slice A n c) (hown : OwnI k w b0 e A n c l)
    {B : Nat} {A' : Option Addr} {m c' : Nat} {l' : List Int} (hx : a.eval x = .slice A' m c') (hr : RdI k w B A' m l')
    (h63 : n + m ≤ 1000000000000) (hb8 : bytes ≤ 100) (hbase : b0 ≤ w.heap.size)
    (h : ∀ A2 c2 w2, OwnI k w2 b0 e A2 (n + m) c2 (l ++ l') → w.grownBy w2 (blkOf A) → (blkOf A2 = blkOf A ∨ blkOf A2 = some w.heap.size) → K (a.put o.dst (.slice A2 (n + m) c2)) w2) :
    if Region.wanted o (yielded ops a.tmps) = true then Oper.wp P o a w K Q else E := by
  rw [if_pos hgd]
  obtain ⟨A2, c2, w2, hrun, h2, h3, h4⟩ := run_app (P := P) (w := w) k b0 t o.type e i bytes ht hi hz hsize hby hown (c' := c') hr h63 hb8 hbase
  unfold Oper.wp execOp
  simp only [ho, resolve, invoke, builtin, Sem.run_bind, Sem.run_pure, Result.andThen_ok, List.map_toArray, List.map_cons, List.map_nil, hs, hx, hrun]
  exact h A2 c2 w2 h2 h3 h4
end
end Go.Proofs.Ytlgkiookobedcaa
