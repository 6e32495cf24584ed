/-
  Rows of packs in memory: a row of one's own, append; the lists of symbols that they lead to.
-/
import Derived.Test.YtbllgifmidnkhaaSrtM
import Derived.Test.YtbllgifmidnkhaaLimP
import Derived.Test.YtbllgifmidnkhaaStep
namespace Go.Proofs.Ytbllgifmidnkhaa
open Go.RowKit
set_option linter.unusedVariables false
theorem dF_one (D : List El) (i : Nat) : (dF D i).oneCell' = true := by
  unfold dF sv
  split <;> rfl
theorem el_append (D E : List El) (i : Nat) : el (D ++ E) i = if i < D.length then el D i else el E (i - D.length) := by
  split
  · exact el_app_left (by assumption)
  · exact el_app_right (by omega)
theorem dF_cat (D E : List El) (i : Nat) : cat (D.length * 2) (dF D) (dF E) i = dF (D ++ E) i := by
  have e : dF (D ++ E) i = if i < D.length * 2 then dF D i else dF E (i - D.length * 2) := by
    by_cases h : i < D.length * 2
    · have h1 : i / 2 < D.length := by omega
      have h2 : el (D ++ E) (i / 2) = el D (i / 2) := el_app_left h1
      rw [if_pos h]
      unfold dF
      rw [h2]
    · have h1 : D.length ≤ i / 2 := by omega
      have h2 : el (D ++ E) (i / 2) = el E (i / 2 - D.length) := el_app_right h1
      have h3 : (i - D.length * 2) / 2 = i / 2 - D.length := by omega
      have h4 : (i - D.length * 2) % 2 = i % 2 := by omega
      rw [if_neg h]
      unfold dF
      rw [h2, h3, h4]
  rw [e]
  rfl
/-- a row of packs that is read -/
def RdP (w : World) (B : Nat) (A : Option Addr) (n : Nat) (D : List El) : Prop := n = D.length ∧ Rd w B A (n * 2) (dF D)
/-- a row of packs of one's own -/
def OwnP (w : World) (b0 : Nat) (A : Option Addr) (n c : Nat) (D : List El) : Prop := n = D.length ∧ Own w b0 40 2 A n c (dF D)
section
variable {w w' : World} {b0 B n c : Nat} {A : Option Addr} {D : List El}
theorem OwnP.rd (h : OwnP w b0 A n c D) : RdP w w.heap.size A n D := ⟨h.1, h.2.rd⟩
theorem OwnP.nil_ : OwnP w b0 none 0 0 [] := ⟨rfl, Own.nil_⟩
theorem OwnP.alloc (h : OwnP w b0 A n c D) (o : Obj) : OwnP (w.alloc o) b0 A n c D := ⟨h.1, h.2.alloc o⟩
theorem OwnP.drew (h : OwnP w b0 A n c D) : OwnP w.drew b0 A n c D := h
theorem OwnP.drewN (h : OwnP w b0 A n c D) (q : Nat) : OwnP (w.drewN q) b0 A n c D := h
theorem OwnP.below {B : Nat} (h : OwnP w b0 A n c D) (hb : Below B w w') (hB : ∀ g, blkOf A = some g → g < B) : OwnP w' b0 A n c D := ⟨h.1, h.2.below hb hB⟩
theorem OwnP.keeps (h : OwnP w b0 A n c D) (hb : Below w.heap.size w w') : OwnP w' b0 A n c D := h.below hb fun _ hg => (h.2.lt hg).2
theorem OwnP.more {b1 : Nat} (h : OwnP w b0 A n c D) (hb : b1 ≤ b0) : OwnP w b1 A n c D := ⟨h.1, h.2.more hb⟩
theorem RdP.below (h : RdP w B A n D) (hb : Below B w w') : RdP w' B A n D := ⟨h.1, h.2.below hb⟩
theorem RdP.more {B' : Nat} (h : RdP w B A n D) (hB : B ≤ B') : RdP w B' A n D := ⟨h.1, h.2.more hB⟩
theorem RdP.lit (w : World) (e : El) (t : TypeId) : RdP (w.alloc (.cells #[.int .i64 e.1, .slice e.2.1 e.2.2.1 e.2.2.2] t)) (w.heap.size + 1) (some ⟨w.heap.size, 0, none⟩) 1 [e] := ⟨rfl, fun _ => ⟨_, rfl, by simp, fun i hi => by
  rw [addr0]
  have h := Ar.new w #[.int .i64 e.1, .slice e.2.1 e.2.2.1 e.2.2.2] t (m := 2) (f := dF [e]) rfl (fun i hi => by
    obtain rfl | rfl : i = 0 ∨ i = 1 := by omega
    · rfl
    · rfl)
  exact h.cell (by omega)⟩⟩
theorem pck_info : (Try.prog.info? 40).map (fun i => (i.zero, i.size, i.bytes)) = some (some (.agg #[.int .i64 0, .slice none 0 0]), 2, 32) := by kernel_rfl
theorem run_appP (b0 : Nat) (ty : TypeId) (i : TypeInfo) (hi : Try.prog.info? 40 = some i) (hz : i.zero = some (.agg #[.int .i64 0, .slice none 0 0]))
    (hsize : i.size = 2) (hby : i.bytes = 32) {A : Option Addr} {n c : Nat} {l : List El} (hown : OwnP w b0 A n c l) {B : Nat} {A' : Option Addr} {m c' : Nat} {l' : List El} (hr : RdP w B A' m l')
    (h63 : n + m ≤ 1000000000000) (hbase : b0 ≤ w.heap.size) :
    ∃ A2 c2 w2, (Builtin.append_ #[37, 37] ty #[.slice A n c, .slice A' m c']).run Try.prog w = .ok (.slice A2 (n + m) c2) w2 ∧ OwnP w2 b0 A2 (n + m) c2 (l ++ l') ∧ w.grownBy w2 (blkOf A) ∧ (blkOf A2 = blkOf A ∨ blkOf A2 = some w.heap.size) := by
  obtain ⟨A2, c2, w2, hrun, h2, h3, h4⟩ := run_append_cat (P := Try.prog) w b0 37 ty 40 i _ 2 32 Try.underlying37 hi hz hsize hby rfl (by omega) A n c _ hown.2 B A' m c' _ hr.2 (fun j _ => dF_one l' j) h63 (by omega) hbase
  exact ⟨A2, c2, w2, hrun, ⟨by rw [List.length_append, ← hown.1, ← hr.1], h2.congr fun j hj => by rw [hown.1, dF_cat]⟩, h3, h4⟩
theorem wpList_appP {ops : Array Oper} {rest : List Oper} {o : Oper} {a : Act} {Q : Exit → Act → World → Prop} (b0 : Nat) (i : TypeInfo) (hgd : Region.wanted o (yielded ops a.tmps) = true) (s x : Operand)
    (ho : o.op = .call { callee := .builtin .append, args := #[s, x], argTypes := #[37, 37] }) (hi : Try.prog.info? 40 = some i) (hz : i.zero = some (.agg #[.int .i64 0, .slice none 0 0]))
    (hsize : i.size = 2) (hby : i.bytes = 32) {A : Option Addr} {n c : Nat} {l : List El} (hs : a.eval s = .slice A n c) (hown : OwnP w b0 A n c l)
    {B : Nat} {A' : Option Addr} {m c' : Nat} {l' : List El} (hx : a.eval x = .slice A' m c') (hr : RdP w B A' m l')
    (h63 : n + m ≤ 1000000000000) (hbase : b0 ≤ w.heap.size)
    (h : ∀ A2 c2 w2, OwnP w2 b0 A2 (n + m) c2 (l ++ l') → w.grownBy w2 (blkOf A) → (blkOf A2 = blkOf A ∨ blkOf A2 = some w.heap.size) → wpList Try.prog ops Q rest (a.put o.dst (.slice A2 (n + m) c2)) w2) : wpList Try.prog ops Q (o :: rest) a w := by
  refine wpList_step fun K hK => ?_
  rw [if_pos hgd]
  obtain ⟨A2, c2, w2, hrun, h2, h3, h4⟩ := run_appP b0 o.type i hi hz hsize hby hown (c' := c') hr h63 hbase
  unfold Oper.wp execOp
  simp only [ho, resolve, invoke, builtin, Sem.run_bind, Sem.run_pure, Result.andThen_ok, List.map_toArray, List.map_cons, List.map_nil, hs, hx, hrun]
  exact hK _ _ (h A2 c2 w2 h2 h3 h4)
theorem step_appP {ops : Array Oper} {o : Oper} {a : Act} {K : Act → World → Prop} {Q : Exit → Act → World → Prop} {E : Prop} (b0 : Nat) (i : TypeInfo) (hgd : Region.wanted o (yielded ops a.tmps) = true) (s x : Operand)
    (ho : o.op = .call { callee := .builtin .append, args := #[s, x], argTypes := #[37, 37] }) (hi : Try.prog.info? 40 = some i) (hz : i.zero = some (.agg #[.int .i64 0, .slice none 0 0]))
    (hsize : i.size = 2) (hby : i.bytes = 32) {A : Option Addr} {n c : Nat} {l : List El} (hs : a.eval s = .slice A n c) (hown : OwnP w b0 A n c l)
    {B : Nat} {A' : Option Addr} {m c' : Nat} {l' : List El} (hx : a.eval x = .slice A' m c') (hr : RdP w B A' m l')
    (h63 : n + m ≤ 1000000000000) (hbase : b0 ≤ w.heap.size)
    (h : ∀ A2 c2 w2, OwnP w2 b0 A2 (n + m) c2 (l ++ l') → w.grownBy w2 (blkOf A) → (blkOf A2 = blkOf A ∨ blkOf A2 = some w.heap.size) → K (a.put o.dst (.slice A2 (n + m) c2)) w2) :
    if Region.wanted o (yielded ops a.tmps) = true then Oper.wp Try.prog o a w K Q else E := by
  rw [if_pos hgd]
  obtain ⟨A2, c2, w2, hrun, h2, h3, h4⟩ := run_appP b0 o.type i hi hz hsize hby hown (c' := c') hr h63 hbase
  unfold Oper.wp execOp
  simp only [ho, resolve, invoke, builtin, Sem.run_bind, Sem.run_pure, Result.andThen_ok, List.map_toArray, List.map_cons, List.map_nil, hs, hx, hrun]
  exact h A2 c2 w2 h2 h3 h4
end
/-- the packs of a row mean those of the plain law; their symbols lie below B, not in the block X -/
def Mean (w : World) (B : Nat) (X : Option Nat) (D : List El) (L : List Pk) : Prop :=
  D.length = L.length ∧ ∀ i, i < L.length → (el D i).1 = (L.getD i ⟨0, []⟩).w ∧ RdI .i64 w B (el D i).2.1 (el D i).2.2.1 (L.getD i ⟨0, []⟩).l ∧ (∀ g, X = some g → blkOf (el D i).2.1 ≠ some g)
end Go.Proofs.Ytbllgifmidnkhaa
