/-
  The law of append for tokens in a region whose order is open.
-/
import Derived.Test.YtlgkiookobedcaaProg
import Derived.Test.YtlgkiookobedcaaStep
import Derived.Test.YtlgkiookobedcaaPk4
namespace Go.Proofs.Ytlgkiookobedcaa
open Go.RowKit
set_option linter.unusedVariables false
section
variable {w : World}
theorem step_appT {ops : Array Oper} {o : Oper} {a : Act} {K : Act → World → Prop} {Q : Exit → Act → World → Prop} {E : Prop} (b0 : Nat) (i : TypeInfo) (hgd : Region.wanted o (yielded ops a.tmps) = true) (s x : Operand)
    (ho : o.op = .call { callee := .builtin .append, args := #[s, x], argTypes := #[34, 34] }) (hi : Try.prog.info? 68 = some i) (hz : i.zero = some (.agg #[.int .u8 0, .int .i64 0, .int .i64 0]))
    (hsize : i.size = 3) (hby : i.bytes = 24) {A : Option Addr} {n c : Nat} {l : List Tok} (hs : a.eval s = .slice A n c) (hown : OwnT w b0 A n c l)
    {B : Nat} {A' : Option Addr} {m c' : Nat} {l' : List Tok} (hx : a.eval x = .slice A' m c') (hr : RdT w B A' m l')
    (h63 : n + m ≤ 1000000000000) (hbase : b0 ≤ w.heap.size)
    (h : ∀ A2 c2 w2, OwnT w2 b0 A2 (n + m) c2 (l ++ l') → w.grownBy w2 (blkOf A) → (blkOf A2 = blkOf A ∨ blkOf A2 = some w.heap.size) → K (a.put o.dst (.slice A2 (n + m) c2)) w2) :
    if Region.wanted o (yielded ops a.tmps) = true then Oper.wp Try.prog o a w K Q else E := by
  rw [if_pos hgd]
  obtain ⟨A2, c2, w2, hrun, h2, h3, h4⟩ := run_append_cat (P := Try.prog) w b0 34 o.type 68 i _ 3 24 Try.underlying34 hi hz hsize hby rfl (by omega) A n c _ hown.2 B A' m c' _ hr.rd (fun j _ => tokV_one l' j) h63 (by omega) hbase
  unfold Oper.wp execOp
  simp only [ho, resolve, invoke, builtin, Sem.run_bind, Sem.run_pure, Result.andThen_ok, List.map_toArray, List.map_cons, List.map_nil, hs, hx, hrun]
  exact h A2 c2 w2 ⟨by rw [List.length_append, ← hown.1, ← hr.1], h2.congr fun j hj => by rw [hown.1, tokV_cat]⟩ h3 h4
end
end Go.Proofs.Ytlgkiookobedcaa
