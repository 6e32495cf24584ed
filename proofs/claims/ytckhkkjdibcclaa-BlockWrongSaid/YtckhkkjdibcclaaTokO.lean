/-
  Lists of tokens in memory: append.
-/
import Derived.Test.YtckhkkjdibcclaaProg
import Derived.Test.YtckhkkjdibcclaaTokM
import Derived.Test.YtckhkkjdibcclaaOwn
namespace Go.Proofs.Ytckhkkjdibcclaa
open Go.RowKit
set_option linter.unusedVariables false

/-- the cells of a list of tokens, one after the other -/
def tokV (l : List Tok) (i : Nat) : Value := tf (tokAt l (i / 3)).lit (tokAt l (i / 3)).len (tokAt l (i / 3)).dist (i % 3)
theorem tokV_0 (l : List Tok) (i : Nat) : tokV l (i * 3) = .int .u8 (tokAt l i).lit := by unfold tokV; rw [show i * 3 / 3 = i by omega, show i * 3 % 3 = 0 by omega]; rfl
theorem tokV_1 (l : List Tok) (i : Nat) : tokV l (i * 3 + 1) = .int .i64 (tokAt l i).len := by unfold tokV; rw [show (i * 3 + 1) / 3 = i by omega, show (i * 3 + 1) % 3 = 1 by omega]; rfl
theorem tokV_2 (l : List Tok) (i : Nat) : tokV l (i * 3 + 2) = .int .i64 (tokAt l i).dist := by unfold tokV; rw [show (i * 3 + 2) / 3 = i by omega, show (i * 3 + 2) % 3 = 2 by omega]; rfl
theorem tokV_one (l : List Tok) (i : Nat) : (tokV l i).oneCell' = true := by
  unfold tokV tf
  split <;> rfl
theorem RdT.of_rd {w : World} {B n : Nat} {A : Option Addr} {l : List Tok} (hn : n = l.length) (h : Rd w B A (n * 3) (tokV l)) : RdT w B A n l := ⟨hn, fun h0 => by
  obtain ⟨ad, e, hb, hc⟩ := h (by omega)
  exact ⟨ad, e, hb, fun i hi => ⟨by rw [hc _ (by omega), tokV_0], by rw [hc _ (by omega), tokV_1], by rw [hc _ (by omega), tokV_2]⟩⟩⟩
theorem RdT.rd {w : World} {B n : Nat} {A : Option Addr} {l : List Tok} (h : RdT w B A n l) : Rd w B A (n * 3) (tokV l) := fun h0 => by
  obtain ⟨ad, e, hb, hc⟩ := h.2 (by omega)
  refine ⟨ad, e, hb, fun i hi => ?_⟩
  obtain ⟨c0, c1, c2⟩ := hc (i / 3) (by omega)
  obtain h | h | h : i = i / 3 * 3 ∨ i = i / 3 * 3 + 1 ∨ i = i / 3 * 3 + 2 := by omega
  · rw [h, tokV_0]; exact c0
  · rw [h, tokV_1]; exact c1
  · rw [h, tokV_2]; exact c2
theorem tokAt_append (l l' : List Tok) (i : Nat) : tokAt (l ++ l') i = if i < l.length then tokAt l i else tokAt l' (i - l.length) := by
  unfold tokAt
  simp only [List.getD_eq_getElem?_getD]
  split
  · rw [List.getElem?_append_left (by assumption)]
  · rw [List.getElem?_append_right (by omega)]
theorem tokV_cat (l l' : List Tok) (i : Nat) : cat (l.length * 3) (tokV l) (tokV l') i = tokV (l ++ l') i := by
  unfold cat tokV
  rw [tokAt_append]
  by_cases h : i < l.length * 3
  · rw [if_pos h, if_pos (by omega)]
  · rw [if_neg h, if_neg (by omega), show (i - l.length * 3) / 3 = i / 3 - l.length by omega, show (i - l.length * 3) % 3 = i % 3 by omega]
def OwnT (w : World) (b0 : Nat) (A : Option Addr) (n c : Nat) (l : List Tok) : Prop := n = l.length ∧ Own w b0 27 3 A n c (tokV l)
theorem OwnT.rd {w : World} {b0 n c : Nat} {A : Option Addr} {l : List Tok} (h : OwnT w b0 A n c l) : RdT w w.heap.size A n l := RdT.of_rd h.1 h.2.rd
theorem OwnT.nil0 (w : World) (b0 : Nat) (hb : b0 ≤ w.heap.size) : OwnT (w.alloc (.cells #[] 27)) b0 (some ⟨w.heap.size, 0, none⟩) 0 0 [] :=
  ⟨rfl, Own.lit rfl #[] _ hb (by simp) (by simp) (fun i hi => by omega)⟩
theorem wtok_info : (Try.prog.info? 27).map (fun i => (i.zero, i.size, i.bytes)) = some (some (.agg #[.int .u8 0, .int .i64 0, .int .i64 0]), 3, 24) := by kernel_rfl
section
variable {w : World}
theorem wpList_appT {ops : Array Oper} {rest : List Oper} {o : Oper} {a : Act} {Q : Exit → Act → World → Prop} (b0 : Nat) (i : TypeInfo) (hgd : Region.wanted o (yielded ops a.tmps) = true) (s x : Operand)
    (ho : o.op = .call { callee := .builtin .append, args := #[s, x], argTypes := #[22, 22] }) (hi : Try.prog.info? 27 = some i) (hz : i.zero = some (.agg #[.int .u8 0, .int .i64 0, .int .i64 0]))
    (hsize : i.size = 3) (hby : i.bytes = 24) {A : Option Addr} {n c : Nat} {l : List Tok} (hs : a.eval s = .slice A n c) (hown : OwnT w b0 A n c l)
    {B : Nat} {A' : Option Addr} {m c' : Nat} {l' : List Tok} (hx : a.eval x = .slice A' m c') (hr : RdT w B A' m l')
    (h63 : n + m ≤ 1000000000000) (hbase : b0 ≤ w.heap.size)
    (h : ∀ A2 c2 w2, OwnT w2 b0 A2 (n + m) c2 (l ++ l') → w.grownBy w2 (blkOf A) → (blkOf A2 = blkOf A ∨ blkOf A2 = some w.heap.size) → wpList Try.prog ops Q rest (a.put o.dst (.slice A2 (n + m) c2)) w2) : wpList Try.prog ops Q (o :: rest) a w := by
  refine wpList_step fun K hK => ?_
  rw [if_pos hgd]
  obtain ⟨A2, c2, w2, hrun, h2, h3, h4⟩ := run_append_cat (P := Try.prog) w b0 22 o.type 27 i _ 3 24 Try.underlying22 hi hz hsize hby rfl (by omega) A n c _ hown.2 B A' m c' _ hr.rd (fun j _ => tokV_one l' j) h63 (by omega) hbase
  unfold Oper.wp execOp
  simp only [ho, resolve, invoke, builtin, Sem.run_bind, Sem.run_pure, Result.andThen_ok, List.map_toArray, List.map_cons, List.map_nil, hs, hx, hrun]
  exact hK _ _ (h A2 c2 w2 ⟨by rw [List.length_append, ← hown.1, ← hr.1], h2.congr fun j hj => by rw [hown.1, tokV_cat]⟩ h3 h4)
end
end Go.Proofs.Ytckhkkjdibcclaa
