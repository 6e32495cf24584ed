/-
  Words for memory, over any program: a slice of the call's own that begins inside its block; the law of append on it.
-/
import Derived.Test.YtjeedkjgjfbndaaPk
import Derived.Laws.AppendOwn
namespace Go.Proofs.Ytjeedkjgjfbndaa
open Go.RowKit
set_option linter.unusedVariables false

/-- As OwnI, but the slice may begin at any cell of the block. -/
def OwnO (k : IntKind) (w : World) (b0 : Nat) (e : TypeId) (A : Option Addr) (n c : Nat) (l : List Int) : Prop :=
  n = l.length ∧ ((A = none ∧ n = 0 ∧ c = 0) ∨ ∃ (g off : Nat) (cur : Array Value), A = some ⟨g, off, none⟩ ∧ b0 ≤ g ∧ w.heap[g]? = some (.cells cur e (0, 0)) ∧ n ≤ c ∧ c ≤ maxLen ∧ off + c ≤ cur.size ∧ ∀ i, i < n → cur[off + i]? = some (.int k (ix l i)))
section
variable {k : IntKind} {w w' : World} {b0 : Nat} {e : TypeId} {n c : Nat} {A : Option Addr} {l : List Int}
theorem OwnI.up (h : OwnI k w b0 e A n c l) : OwnO k w b0 e A n c l := by
  refine ⟨h.1, ?_⟩
  rcases h.2 with h2 | ⟨g, cur, rfl, h1, h2, h3, h4, h5, h6⟩
  · exact .inl h2
  · exact .inr ⟨g, 0, cur, rfl, h1, h2, h3, h4, by omega, fun i hi => by rw [Nat.zero_add]; exact h6 i (by omega)⟩
theorem OwnO.nil_ : OwnO k w b0 e none 0 0 [] := ⟨rfl, .inl ⟨rfl, rfl, rfl⟩⟩
theorem OwnO.keep (h : OwnO k w b0 e A n c l) (hk : ∀ g, blkOf A = some g → g < w.heap.size → w'.heap[g]? = w.heap[g]?) : OwnO k w' b0 e A n c l := by
  refine ⟨h.1, ?_⟩
  rcases h.2 with h | ⟨g, off, cur, rfl, h1, h2, r⟩
  · exact .inl h
  · exact .inr ⟨g, off, cur, rfl, h1, (hk g rfl (lt_of_block h2)).trans h2, r⟩
theorem OwnO.alloc (h : OwnO k w b0 e A n c l) (o : Obj) : OwnO k (w.alloc o) b0 e A n c l := h.keep fun g _ hlt => Below.heap_alloc w o g hlt
theorem OwnO.drewN (h : OwnO k w b0 e A n c l) (j : Nat) : OwnO k (w.drewN j) b0 e A n c l := h
theorem OwnO.drew (h : OwnO k w b0 e A n c l) : OwnO k w.drew b0 e A n c l := h
theorem OwnO.lt (h : OwnO k w b0 e A n c l) {g : Nat} (hg : blkOf A = some g) : b0 ≤ g ∧ g < w.heap.size := by
  rcases h.2 with ⟨rfl, _⟩ | ⟨g', off, cur, rfl, h1, h2, _⟩
  · simp [blkOf] at hg
  · simp [blkOf] at hg; subst hg; exact ⟨h1, lt_of_block h2⟩
theorem OwnO.below {B : Nat} (h : OwnO k w b0 e A n c l) (hb : Below B w w') (hB : ∀ g, blkOf A = some g → g < B) : OwnO k w' b0 e A n c l := h.keep fun g hg _ => hb.block g (hB g hg)
theorem OwnO.keeps (h : OwnO k w b0 e A n c l) (hb : Below w.heap.size w w') : OwnO k w' b0 e A n c l := h.below hb fun _ hg => (h.lt hg).2
theorem OwnO.grown {row : Option Nat} (h : OwnO k w b0 e A n c l) (hg : w.grownBy w' row) (hr : blkOf A ≠ row ∨ blkOf A = none) : OwnO k w' b0 e A n c l :=
  h.keep fun g hgA hlt => hg.block g hlt (fun e => by
    rcases hr with hr | hr
    · exact hr (hgA.trans e)
    · rw [hr] at hgA; cases hgA)
theorem OwnO.far (h : OwnO k w b0 e A n c l) {p : Addr} (hp : blkOf A ≠ some p.block) (u : Value) : OwnO k (w.setCell p u) b0 e A n c l :=
  h.keep fun g hg _ => Below.heap_setCell w p u g (fun e => hp (by rw [hg, e]))
theorem OwnO.more {b1 : Nat} (h : OwnO k w b0 e A n c l) (hb : b1 ≤ b0) : OwnO k w b1 e A n c l := by
  refine ⟨h.1, ?_⟩
  rcases h.2 with h | ⟨g, off, cur, r1, r2, r⟩
  · exact .inl h
  · exact .inr ⟨g, off, cur, r1, Nat.le_trans hb r2, r⟩
theorem OwnO.capLe (h : OwnO k w b0 e A n c l) : n ≤ c := by
  rcases h.2 with ⟨_, rfl, rfl⟩ | ⟨g, off, cur, _, _, _, h3, _⟩
  · exact Nat.le_refl _
  · exact h3
theorem OwnO.rd (h : OwnO k w b0 e A n c l) : RdI k w w.heap.size A n l := by
  refine ⟨h.1, fun hm => ?_⟩
  rcases h.2 with ⟨_, rfl, _⟩ | ⟨g, off, cur, rfl, _, h2, h3, _, h5, h6⟩
  · simp at hm
  · refine ⟨_, rfl, lt_of_block h2, fun i hi => ?_⟩
    have : (⟨g, off, none⟩ : Addr).add i = ⟨g, off + i, none⟩ := by unfold Addr.add; split <;> simp_all
    rw [this, cell_of_row w g (off + i) cur e (0, 0) h2, h6 i hi]
/-- s[j:] -/
theorem OwnO.cut (h : OwnO k w b0 e A n c l) {j : Nat} (hj : j ≤ n) : OwnO k w b0 e (cutA A c j) (n - j) (c - j) (l.drop j) := by
  refine ⟨by rw [List.length_drop, h.1], ?_⟩
  rcases h.2 with ⟨rfl, rfl, rfl⟩ | ⟨g, off, cur, rfl, h1, h2, h3, h4, h5, h6⟩
  · refine .inl ⟨?_, by omega, by omega⟩
    unfold cutA; split <;> rfl
  · by_cases hc : c = j
    · refine .inr ⟨g, off, cur, by unfold cutA; rw [if_pos hc], h1, h2, by omega, by omega, by omega, fun i hi => by omega⟩
    · refine .inr ⟨g, off + j, cur, ?_, h1, h2, by omega, by omega, by omega, fun i hi => ?_⟩
      · unfold cutA; rw [if_neg hc]
        show some ((⟨g, off, none⟩ : Addr).add j) = _
        unfold Addr.add
        split
        · simp_all
        · rfl
      · rw [ix_drop, Nat.add_assoc]
        exact h6 (j + i) (by omega)
/-- s[:j] -/
theorem OwnO.pre (h : OwnO k w b0 e A n c l) {j : Nat} (hj : j ≤ n) : OwnO k w b0 e A j c (l.take j) := by
  refine ⟨by rw [List.length_take, ← h.1]; omega, ?_⟩
  rcases h.2 with ⟨rfl, rfl, rfl⟩ | ⟨g, off, cur, rfl, h1, h2, h3, h4, h5, h6⟩
  · exact .inl ⟨rfl, by omega, rfl⟩
  · exact .inr ⟨g, off, cur, rfl, h1, h2, by omega, h4, h5, fun i hi => by rw [h6 i (by omega)]; simp [ix, hi]⟩
theorem OwnO.blk (h : OwnO k w b0 e A n c l) (j : Nat) : blkOf (cutA A c j) = blkOf A := by
  unfold cutA
  split
  · rfl
  · cases A with
    | none => rfl
    | some x => simp [blkOf, addr_block]
theorem OwnO.addr (h : OwnO k w b0 e A n c l) (hn : 0 < n) : ∃ g off, A = some ⟨g, off, none⟩ := by
  rcases h.2 with ⟨_, h, _⟩ | ⟨g', off, cur, hA, _⟩
  · omega
  · exact ⟨_, _, hA⟩
theorem OwnO.cell {g off : Nat} (h : OwnO k w b0 e (some ⟨g, off, none⟩) n c l) {i : Nat} (hi : i < n) : w.cell? ⟨g, off + i, none⟩ = some (.int k (ix l i)) := by
  rcases h.2 with ⟨h, _⟩ | ⟨g', off', cur, hA, h1, h2, h3, h4, h5, h6⟩
  · cases h
  · cases hA
    rw [cell_of_row w _ _ cur e (0, 0) h2, h6 i hi]
theorem OwnO.chg {S : Nat → Prop} (ha : OwnO k w b0 e A n c l) (h : Chg w w' S) (hS : ∀ g, blkOf A = some g → ¬ S g) : OwnO k w' b0 e A n c l :=
  ha.keep fun g hg hlt => h.block g hlt (hS g hg)
end

section
variable {P : Program} {w : World}
theorem run_appO (k : IntKind) (b0 : Nat) (t ty e : TypeId) (i : TypeInfo) (bytes : Nat) (ht : P.underlying t = some (.slice e)) (hi : P.info? e = some i) (hz : i.zero = some (.int k 0))
    (hsize : i.size = 1) (hby : i.bytes = bytes) {A : Option Addr} {n c : Nat} {l : List Int} (hown : OwnO k w b0 e A n c l) {B : Nat} {A' : Option Addr} {m c' : Nat} {l' : List Int} (hr : RdI k w B A' m l')
    (h63 : n + m ≤ 1000000000000) (hb8 : bytes ≤ 100) (hbase : b0 ≤ w.heap.size) :
    ∃ A2 c2 w2, (Builtin.append_ #[t, t] ty #[.slice A n c, .slice A' m c']).run P w = .ok (.slice A2 (n + m) c2) w2 ∧ OwnO k w2 b0 e A2 (n + m) c2 (l ++ l') ∧ w.grownBy w2 (blkOf A) ∧
      (blkOf A2 = blkOf A ∨ blkOf A2 = some w.heap.size) := by
  rcases hown.2 with h0 | ⟨g, off, cur, rfl, h1, h2, h3, h4, h5, h6⟩
  · have hI : OwnI k w b0 e A n c l := ⟨hown.1, .inl h0⟩
    obtain ⟨A2, c2, w2, r1, r2, r3, r4⟩ := run_app (P := P) k b0 t ty e i bytes ht hi hz hsize hby hI (c' := c') hr h63 hb8 hbase
    exact ⟨A2, c2, w2, r1, r2.up, r3, r4⟩
  · have hlen : (l ++ l').length = n + m := by rw [List.length_append, ← hown.1, ← hr.1]
    rcases A' with _ | ad
    · have hm : m = 0 := by
        rcases Nat.eq_zero_or_pos m with h0 | h0
        · exact h0
        · obtain ⟨ad, h, _⟩ := hr.2 h0; cases h
      subst hm
      have hl' : l' = [] := List.eq_nil_of_length_eq_zero hr.1.symm
      subst hl'
      refine ⟨some ⟨g, off, none⟩, c, w, ?_, by rw [List.append_nil]; exact hown, World.grownBy.refl w _, .inl rfl⟩
      simp [Builtin.append_, run_underlying ht, sizeOf, typeInfo, hi, Builtin.lenOf, Builtin.firstCells, h3, storeCells]
    · have hcells : ∀ j u, ((List.range m).map fun i => Value.int k (ix l' i))[j]? = some u → w.cell? (ad.add j) = some u := by
        intro j u hu
        have hj : j < m := by
          rcases Nat.lt_or_ge j m with h' | h'
          · exact h'
          · rw [List.getElem?_eq_none (by simpa using h')] at hu; cases hu
        obtain ⟨ad', h, _, hc⟩ := hr.2 (by omega)
        injection h with h
        subst h
        rw [hc j hj]
        simpa [hj] using hu
      have hnl : ((List.range m).map fun i => Value.int k (ix l' i)).length = m * i.size := by simp [hsize]
      by_cases hroom : n + m ≤ c
      · have hf := run_firstCells_some (P := P) w i.size m ad m c' _ hnl hcells
        have hst := run_storeCells_at P g (off + n) e ((List.range m).map fun i => Value.int k (ix l' i)) 0 cur w h2 (by simp; omega) (fun u hu => by obtain ⟨j, _, rfl⟩ := List.mem_map.1 hu; rfl)
        simp only [Nat.add_zero] at hst
        have had : (⟨g, off, none⟩ : Addr).add n = ⟨g, off + n, none⟩ := by unfold Addr.add; split <;> simp_all
        refine ⟨some ⟨g, off, none⟩, c, w.setRow g (cur.toList.take (off + n) ++ ((List.range m).map fun i => Value.int k (ix l' i)) ++ cur.toList.drop (off + n + ((List.range m).map fun i => Value.int k (ix l' i)).length)).toArray, ?_, ⟨hlen.symm, .inr ⟨g, off, _, rfl, h1, setRow_heap w g cur _ e _ h2, hroom, h4, ?_, fun j hj => ?_⟩⟩, ⟨rfl, rfl, rfl, by simp, fun k _ hk => setRow_other w g k _ (fun e => hk (by simp [blkOf, e]))⟩, .inl rfl⟩
        · rw [hsize] at hf
          simp [Builtin.append_, run_underlying ht, sizeOf, typeInfo, hi, hsize, Builtin.lenOf, hroom, hf, had, hst]
        · simp; omega
        · have hlt : off + n ≤ cur.size := by omega
          by_cases hjn : j < n
          · have := h6 j hjn
            have hx : ix (l ++ l') j = ix l j := by rw [ix_append, if_pos (by rw [← hown.1]; exact hjn)]
            rw [hx, ← this]
            simp [List.getElem?_append, List.length_take]
            rw [if_pos (by omega), List.getElem?_take, if_pos (by omega)]
            simp
          · have hx : ix (l ++ l') j = ix l' (j - n) := by rw [ix_append, if_neg (by rw [← hown.1]; exact hjn), ← hown.1]
            rw [hx]
            simp [List.getElem?_append, List.length_take]
            rw [if_neg (by omega), if_pos (by omega)]
            have : off + j - min (off + n) cur.size = j - n := by omega
            have hjm : j - n < m := by omega
            rw [this]
            simp [hjm]
      · have hcl : ∀ j u, ((List.range n).map fun i => Value.int k (ix l i))[j]? = some u → w.cell? ((⟨g, off, none⟩ : Addr).add j) = some u := by
          intro j u hu
          have hj : j < n := by
            rcases Nat.lt_or_ge j n with h' | h'
            · exact h'
            · rw [List.getElem?_eq_none (by simpa using h')] at hu; cases hu
          have : (⟨g, off, none⟩ : Addr).add j = ⟨g, off + j, none⟩ := by unfold Addr.add; split <;> simp_all
          rw [this, hown.cell hj]
          simpa [hj] using hu
        have hmx : n + m ≤ maxLen := by unfold maxLen; omega
        have hbb : (n + m) * i.bytes ≤ 140737488355328 := by
          rw [hby]
          calc (n + m) * bytes ≤ 1000000000000 * 100 := Nat.mul_le_mul h63 hb8
            _ ≤ 140737488355328 := by omega
        have hrg := run_append_grow (P := P) w t ty e i _ ht hi hz ⟨g, off, none⟩ n c ((List.range n).map fun i => Value.int k (ix l i)) (by simp [hsize]) hcl ad m c' _ hnl hcells (by omega) (by simp only [maxLen] at hmx; omega) (growslice_fits (by omega) hbb)
        have hge := grownCap_ge w (n + m) c e
        have hcm := grownCap_le_maxLen w (n + m) c e hmx
        refine ⟨_, _, _, hrg, ⟨hlen.symm, .inr ⟨w.heap.size, 0, _, rfl, hbase, heap_alloc_new w.drew _, hge, hcm, ?_, fun j hj => ?_⟩⟩, ⟨rfl, rfl, rfl, by simp, fun k hk _ => Below.heap_alloc w.drew _ k hk⟩, .inr rfl⟩
        · have e1 : (Value.int k 0).cells.size = 1 := rfl
          simp [size_zeroCells, e1]
          omega
        · rw [Nat.zero_add, ix_append, ← hown.1]
          by_cases hjn : j < n
          · rw [if_pos hjn, Array.getElem?_append_left (by simp; omega), Array.getElem?_append_left (by simpa using hjn)]
            simp [hjn]
          · rw [if_neg hjn, Array.getElem?_append_left (by simp; omega), Array.getElem?_append_right (by simp; omega)]
            have hjm : j - n < m := by omega
            simp [hjm]
theorem wpList_appO {ops : Array Oper} {rest : List Oper} {o : Oper} {a : Act} {Q : Exit → Act → World → Prop} (k : IntKind) (b0 : Nat) (e : TypeId) (i : TypeInfo) (bytes : Nat) (hgd : Region.wanted o (yielded ops a.tmps) = true) (s x : Operand) (t : TypeId)
    (ho : o.op = .call { callee := .builtin .append, args := #[s, x], argTypes := #[t, t] }) (ht : P.underlying t = some (.slice e)) (hi : P.info? e = some i) (hz : i.zero = some (.int k 0))
    (hsize : i.size = 1) (hby : i.bytes = bytes) {A : Option Addr} {n c : Nat} {l : List Int} (hs : a.eval s = .slice A n c) (hown : OwnO k w b0 e A n c l)
    {B : Nat} {A' : Option Addr} {m c' : Nat} {l' : List Int} (hx : a.eval x = .slice A' m c') (hr : RdI k w B A' m l')
    (h63 : n + m ≤ 1000000000000) (hb8 : bytes ≤ 100) (hbase : b0 ≤ w.heap.size)
    (h : ∀ A2 c2 w2, OwnO k w2 b0 e A2 (n + m) c2 (l ++ l') → w.grownBy w2 (blkOf A) → (blkOf A2 = blkOf A ∨ blkOf A2 = some w.heap.size) → wpList P ops Q rest (a.put o.dst (.slice A2 (n + m) c2)) w2) : wpList P ops Q (o :: rest) a w := by
  refine wpList_step fun K hK => ?_
  rw [if_pos hgd]
  obtain ⟨A2, c2, w2, hrun, h2, h3, h4⟩ := run_appO (P := P) (w := w) k b0 t o.type e i bytes ht hi hz hsize hby hown (c' := c') hr h63 hb8 hbase
  unfold Oper.wp execOp
  simp only [ho, resolve, invoke, builtin, Sem.run_bind, Sem.run_pure, Result.andThen_ok, List.map_toArray, List.map_cons, List.map_nil, hs, hx, hrun]
  exact hK _ _ (h A2 c2 w2 h2 h3 h4)
end
end Go.Proofs.Ytjeedkjgjfbndaa
