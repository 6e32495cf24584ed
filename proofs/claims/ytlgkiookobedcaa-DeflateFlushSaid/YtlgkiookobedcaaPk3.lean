/-
  Several texts in one (written by pack2.py): Own, Chg, WinP, ExpP, Slc, Put, RunP, FndP, ColP.
-/
import Derived.Test.YtlgkiookobedcaaPk1
import Derived.Maps.AppendAt
import Derived.OwnWalk
namespace Go.Proofs.Ytlgkiookobedcaa
open Go.RowKit
set_option linter.unusedVariables false
def cat {α : Type} (n : Nat) (f g : Nat → α) : Nat → α := fun i => if i < n then f i else g (i - n)
def blkOf (A : Option Addr) : Option Nat := A.map (·.block)
def Own (w : World) (b0 : Nat) (e : TypeId) (sz : Nat) (A : Option Addr) (n c : Nat) (f : Nat → Value) : Prop :=
  (A = none ∧ n = 0 ∧ c = 0) ∨ ∃ (g : Nat) (cur : Array Value), A = some ⟨g, 0, none⟩ ∧ b0 ≤ g ∧ w.heap[g]? = some (.cells cur e (0, 0)) ∧ n ≤ c ∧ c ≤ maxLen ∧ cur.size = c * sz ∧ ∀ i, i < n * sz → cur[i]? = some (f i)
section
variable {w w' : World} {b0 : Nat} {e : TypeId} {sz n c : Nat} {A : Option Addr} {f : Nat → Value}
theorem Own.nil_ : Own w b0 e sz none 0 0 f := .inl ⟨rfl, rfl, rfl⟩
theorem Own.keep (h : Own w b0 e sz A n c f) (hk : ∀ g, blkOf A = some g → g < w.heap.size → w'.heap[g]? = w.heap[g]?) : Own w' b0 e sz A n c f := by
  rcases h with h | ⟨g, cur, rfl, h1, h2, r⟩
  · exact .inl h
  · exact .inr ⟨g, cur, rfl, h1, (hk g rfl (lt_of_block h2)).trans h2, r⟩
theorem Own.alloc (h : Own w b0 e sz A n c f) (o : Obj) : Own (w.alloc o) b0 e sz A n c f := h.keep fun g _ hlt => Below.heap_alloc w o g hlt
theorem Own.drewN (h : Own w b0 e sz A n c f) (k : Nat) : Own (w.drewN k) b0 e sz A n c f := h
theorem Own.drew (h : Own w b0 e sz A n c f) : Own w.drew b0 e sz A n c f := h
theorem Own.far (h : Own w b0 e sz A n c f) {p : Addr} (hp : blkOf A ≠ some p.block) (u : Value) : Own (w.setCell p u) b0 e sz A n c f :=
  h.keep fun g hg _ => Below.heap_setCell w p u g (fun e => hp (by rw [hg, e]))
theorem Own.below {B : Nat} (h : Own w b0 e sz A n c f) (hb : Below B w w') (hB : ∀ g, blkOf A = some g → g < B) : Own w' b0 e sz A n c f := h.keep fun g hg _ => hb.block g (hB g hg)
theorem Own.grown {row : Option Nat} (h : Own w b0 e sz A n c f) (hg : w.grownBy w' row) (hr : blkOf A ≠ row ∨ blkOf A = none) : Own w' b0 e sz A n c f :=
  h.keep fun g hgA hlt => hg.block g hlt (fun e => by
    rcases hr with hr | hr
    · exact hr (hgA.trans e)
    · rw [hr] at hgA; cases hgA)
theorem Own.lt (h : Own w b0 e sz A n c f) {g : Nat} (hg : blkOf A = some g) : b0 ≤ g ∧ g < w.heap.size := by
  rcases h with ⟨rfl, _⟩ | ⟨g', cur, rfl, h1, h2, _⟩
  · simp [blkOf] at hg
  · simp [blkOf] at hg; subst hg; exact ⟨h1, lt_of_block h2⟩
theorem Own.congr {f' : Nat → Value} (h : Own w b0 e sz A n c f) (hf : ∀ i, i < n * sz → f i = f' i) : Own w b0 e sz A n c f' := by
  rcases h with h | ⟨g, cur, r1, r2, r3, r4, r5, r6, h7⟩
  · exact .inl h
  · exact .inr ⟨g, cur, r1, r2, r3, r4, r5, r6, fun i hi => by rw [h7 i hi, hf i hi]⟩
theorem Own.more {b1 : Nat} (h : Own w b0 e sz A n c f) (hb : b1 ≤ b0) : Own w b1 e sz A n c f := by
  rcases h with h | ⟨g, cur, r1, r2, r⟩
  · exact .inl h
  · exact .inr ⟨g, cur, r1, Nat.le_trans hb r2, r⟩
theorem Own.rd (h : Own w b0 e sz A n c f) : Rd w w.heap.size A (n * sz) f := fun hm => by
  rcases h with ⟨_, rfl, _⟩ | ⟨g, cur, rfl, _, h2, h3, _, h5, h6⟩
  · simp at hm
  · refine ⟨_, rfl, lt_of_block h2, fun i hi => ?_⟩
    have : (⟨g, 0, none⟩ : Addr).add i = ⟨g, i, none⟩ := by unfold Addr.add; split <;> simp_all
    rw [this, cell_of_row w g i cur e (0, 0) h2, h6 i hi]
theorem Own.capLe (h : Own w b0 e sz A n c f) : n ≤ c := by
  rcases h with ⟨_, rfl, rfl⟩ | ⟨g, cur, _, _, _, h3, _⟩
  · exact Nat.le_refl _
  · exact h3
theorem Own.owns (h : Own w b0 e sz A n c f) : w.ownsRow b0 e sz (.slice A n c) n ((List.range (n * sz)).map f) := by
  refine ⟨by simp, ?_⟩
  rcases h with ⟨rfl, rfl, rfl⟩ | ⟨g, cur, rfl, h1, h2, h3, h4, h5, h6⟩
  · exact .inl ⟨rfl, rfl⟩
  · refine .inr ⟨g, c, cur, rfl, h1, h2, h3, h4, h5, ?_⟩
    apply List.ext_getElem?
    intro i
    rw [List.getElem?_take]
    by_cases hi : i < n * sz
    · rw [if_pos hi]
      have := h6 i hi
      simp [hi, this]
    · rw [if_neg hi]; simp [hi]
theorem own_of_owns {v : Value} {xs : List Value} (h : w.ownsRow b0 e sz v n xs) (hx : ∀ i, i < n * sz → xs[i]? = some (f i)) : ∃ A c, v = .slice A n c ∧ Own w b0 e sz A n c f ∧ v.ownBlock = blkOf A := by
  obtain ⟨hl, h2⟩ := h
  rcases h2 with ⟨rfl, rfl⟩ | ⟨g, cap, cur, rfl, h1, h2, h3, h4, h5, h6⟩
  · exact ⟨none, 0, rfl, .inl ⟨rfl, rfl, rfl⟩, rfl⟩
  · refine ⟨_, _, rfl, .inr ⟨g, cur, rfl, h1, h2, h3, h4, h5, fun i hi => ?_⟩, rfl⟩
    have := hx i hi
    rw [← h6, List.getElem?_take, if_pos hi] at this
    simpa using this
theorem Own.lit {g : Nat} (hg : g = w.heap.size) (cs : Array Value) (e : TypeId) {n : Nat} (hb : b0 ≤ w.heap.size) (hn : n ≤ maxLen) (hs : cs.size = n * sz) (hf : ∀ i, i < n * sz → cs[i]? = some (f i)) :
    Own (w.alloc (.cells cs e)) b0 e sz (some ⟨g, 0, none⟩) n n f := by
  subst hg
  exact .inr ⟨_, cs, rfl, hb, heap_alloc_new w _, Nat.le_refl _, hn, hs, hf⟩
theorem Own.set_ {g : Nat} (h : Own w b0 e sz (some ⟨g, 0, none⟩) n c f) {i : Nat} (hi : i < n * sz) (u : Value) : Own (w.setCell ⟨g, i, none⟩ u) b0 e sz (some ⟨g, 0, none⟩) n c (upd f i u) := by
  rcases h with ⟨h, _⟩ | ⟨g', cur, hA, h1, h2, h3, h4, h5, h6⟩
  · cases h
  · cases hA
    refine .inr ⟨_, cur.setIfInBounds i u, rfl, h1, ?_, h3, h4, by simpa using h5, fun j hj => ?_⟩
    · simp [World.setCell, Array.getElem?_modify, h2]
    · rw [Array.getElem?_setIfInBounds]
      by_cases he : i = j
      · subst he
        have : i < cur.size := by rw [h5]; exact Nat.lt_of_lt_of_le hj (Nat.mul_le_mul_right _ h3)
        rw [if_pos rfl, if_pos this, upd_same]
      · rw [if_neg he, h6 j hj, upd_other _ _ (by omega)]
theorem Own.cell {g : Nat} (h : Own w b0 e sz (some ⟨g, 0, none⟩) n c f) {i : Nat} (hi : i < n * sz) : w.cell? ⟨g, i, none⟩ = some (f i) := by
  rcases h with ⟨h, _⟩ | ⟨g', cur, hA, h1, h2, h3, h4, h5, h6⟩
  · cases h
  · cases hA
    rw [cell_of_row w _ i cur e (0, 0) h2, h6 i hi]
theorem Own.frozen {g : Nat} (h : Own w b0 e sz (some ⟨g, 0, none⟩) n c f) (i : Nat) : w.frozen? ⟨g, i, none⟩ = false := by
  rcases h with ⟨h, _⟩ | ⟨g', cur, hA, h1, h2, _⟩
  · cases h
  · cases hA; simp [World.frozen?, h2]
theorem Own.addr (h : Own w b0 e sz A n c f) (hn : 0 < n) : ∃ g, A = some ⟨g, 0, none⟩ := by
  rcases h with ⟨_, h, _⟩ | ⟨g', cur, hA, _⟩
  · omega
  · exact ⟨_, hA⟩
end
section
variable {P : Program} (w : World)
theorem run_append_cat (b0 : Nat) (t ty e : TypeId) (i : TypeInfo) (z : Value) (sz bytes : Nat) (ht : P.underlying t = some (.slice e)) (hi : P.info? e = some i) (hz : i.zero = some z)
    (hsize : i.size = sz) (hby : i.bytes = bytes) (hzs : z.cells.size = sz) (hsz : 0 < sz)
    (A : Option Addr) (n c : Nat) (f : Nat → Value) (hown : Own w b0 e sz A n c f)
    (B : Nat) (A' : Option Addr) (m c' : Nat) (f' : Nat → Value) (hr : Rd w B A' (m * sz) f') (h1 : ∀ j, j < m * sz → (f' j).oneCell' = true)
    (h63 : n + m ≤ 1000000000000) (hb8 : bytes ≤ 100) (hbase : b0 ≤ w.heap.size) :
    ∃ A2 c2 w2, (Builtin.append_ #[t, t] ty #[.slice A n c, .slice A' m c']).run P w = .ok (.slice A2 (n + m) c2) w2 ∧ Own w2 b0 e sz A2 (n + m) c2 (cat (n * sz) f f') ∧ w.grownBy w2 (blkOf A) ∧
      (blkOf A2 = blkOf A ∨ blkOf A2 = some w.heap.size) := by
  have hcat0 : m = 0 → Own w b0 e sz A (n + m) c (cat (n * sz) f f') := by
    rintro rfl
    exact hown.congr fun j hj => by unfold cat; rw [if_pos hj]
  have hbk : (Value.slice A n c).ownBlock = blkOf A := by cases A <;> rfl
  rcases A' with _ | ad
  · have hm : m = 0 := by
      rcases Nat.eq_zero_or_pos m with h0 | h0
      · exact h0
      · obtain ⟨ad, h, _⟩ := hr (Nat.mul_pos h0 hsz)
        cases h
    subst hm
    refine ⟨A, c, w, ?_, hcat0 rfl, World.grownBy.refl w _, .inl rfl⟩
    rcases hown with ⟨rfl, rfl, rfl⟩ | ⟨g, cur, rfl, _, _, hnc, _⟩
    · simp [Builtin.append_, run_underlying ht, sizeOf, typeInfo, hi, Builtin.lenOf, Builtin.firstCells]
    · simp [Builtin.append_, run_underlying ht, sizeOf, typeInfo, hi, Builtin.lenOf, Builtin.firstCells, hnc, storeCells]
  · have hcells : ∀ j u, ((List.range (m * sz)).map f')[j]? = some u → w.cell? (ad.add j) = some u := by
      intro j u hu
      have hj : j < m * sz := by
        rcases Nat.lt_or_ge j (m * sz) with h' | h'
        · exact h'
        · rw [List.getElem?_eq_none (by simpa using h')] at hu; cases hu
      obtain ⟨ad', h, _, hc⟩ := hr (by omega)
      injection h with h
      subst h
      rw [hc j hj]
      simpa [hj] using hu
    have hone : ∀ u ∈ (List.range (m * sz)).map f', u.oneCell' = true := by
      intro u hu
      obtain ⟨j, hj, rfl⟩ := List.mem_map.1 hu
      exact h1 j (by simpa using hj)
    have hbb : (n + m) * bytes ≤ 140737488355328 := by
      calc (n + m) * bytes ≤ 1000000000000 * 100 := Nat.mul_le_mul h63 hb8
        _ ≤ 140737488355328 := by omega
    obtain ⟨v', w', hrun, h2, h3, _, h5⟩ := run_append_own_at (P := P) w b0 t ty e i z sz bytes ht hi hz hsize hby hzs hsz _ n _ hown.owns ad m c' _ (by simp) hcells hone (by unfold maxLen; omega) hbb hbase
    obtain ⟨A2, c2, rfl, ho, hbk2⟩ := own_of_owns (f := cat (n * sz) f f') h2 (fun j hj => by
      unfold cat
      rw [Nat.add_mul] at hj
      by_cases h' : j < n * sz
      · rw [if_pos h', List.getElem?_append_left (by simpa using h')]
        simp [h']
      · rw [if_neg h', List.getElem?_append_right (by simp; omega)]
        have : j - n * sz < m * sz := by omega
        simp [this])
    refine ⟨A2, c2, w', hrun, ho, by rw [← hbk]; exact h3, ?_⟩
    rw [← hbk2, ← hbk]
    exact h5
end
def OwnI (k : IntKind) (w : World) (b0 : Nat) (e : TypeId) (A : Option Addr) (n c : Nat) (l : List Int) : Prop := n = l.length ∧ Own w b0 e 1 A n c (fun i => .int k (ix l i))
section
variable {k : IntKind} {w w' : World} {b0 : Nat} {e : TypeId} {n c : Nat} {A : Option Addr} {l : List Int}
theorem OwnI.nil_ : OwnI k w b0 e none 0 0 [] := ⟨rfl, Own.nil_⟩
theorem OwnI.alloc (h : OwnI k w b0 e A n c l) (o : Obj) : OwnI k (w.alloc o) b0 e A n c l := ⟨h.1, h.2.alloc o⟩
theorem OwnI.drewN (h : OwnI k w b0 e A n c l) (j : Nat) : OwnI k (w.drewN j) b0 e A n c l := h
theorem OwnI.drew (h : OwnI k w b0 e A n c l) : OwnI k w.drew b0 e A n c l := h
theorem OwnI.far (h : OwnI k w b0 e A n c l) {p : Addr} (hp : blkOf A ≠ some p.block) (u : Value) : OwnI k (w.setCell p u) b0 e A n c l := ⟨h.1, h.2.far hp u⟩
theorem OwnI.below {B : Nat} (h : OwnI k w b0 e A n c l) (hb : Below B w w') (hB : ∀ g, blkOf A = some g → g < B) : OwnI k w' b0 e A n c l := ⟨h.1, h.2.below hb hB⟩
theorem OwnI.keeps (h : OwnI k w b0 e A n c l) (hb : Below w.heap.size w w') : OwnI k w' b0 e A n c l := h.below hb fun _ hg => (h.2.lt hg).2
theorem OwnI.grown {row : Option Nat} (h : OwnI k w b0 e A n c l) (hg : w.grownBy w' row) (hr : blkOf A ≠ row ∨ blkOf A = none) : OwnI k w' b0 e A n c l := ⟨h.1, h.2.grown hg hr⟩
theorem OwnI.more {b1 : Nat} (h : OwnI k w b0 e A n c l) (hb : b1 ≤ b0) : OwnI k w b1 e A n c l := ⟨h.1, h.2.more hb⟩
theorem OwnI.rd (h : OwnI k w b0 e A n c l) : RdI k w w.heap.size A n l := ⟨h.1, by simpa using h.2.rd⟩
theorem OwnI.lit {g : Nat} (hg : g = w.heap.size) (l : List Int) (e : TypeId) (hb : b0 ≤ w.heap.size) (hn : l.length ≤ maxLen) : OwnI k (w.alloc (.cells (l.map (Value.int k)).toArray e)) b0 e (some ⟨g, 0, none⟩) l.length l.length l :=
  ⟨rfl, Own.lit hg _ e hb hn (by simp) fun i hi => by rw [Nat.mul_one] at hi; simp [ix, hi]⟩
end
theorem ix_append (l l' : List Int) (i : Nat) : ix (l ++ l') i = if i < l.length then ix l i else ix l' (i - l.length) := by
  unfold ix
  simp only [List.getD_eq_getElem?_getD]
  split
  · rw [List.getElem?_append_left (by assumption)]
  · rw [List.getElem?_append_right (by omega)]
section
variable {P : Program} {w : World}
theorem run_app (k : IntKind) (b0 : Nat) (t ty e : TypeId) (i : TypeInfo) (bytes : Nat) (ht : P.underlying t = some (.slice e)) (hi : P.info? e = some i) (hz : i.zero = some (.int k 0))
    (hsize : i.size = 1) (hby : i.bytes = bytes) {A : Option Addr} {n c : Nat} {l : List Int} (hown : OwnI k w b0 e A n c l) {B : Nat} {A' : Option Addr} {m c' : Nat} {l' : List Int} (hr : RdI k w B A' m l')
    (h63 : n + m ≤ 1000000000000) (hb8 : bytes ≤ 100) (hbase : b0 ≤ w.heap.size) :
    ∃ A2 c2 w2, (Builtin.append_ #[t, t] ty #[.slice A n c, .slice A' m c']).run P w = .ok (.slice A2 (n + m) c2) w2 ∧ OwnI k w2 b0 e A2 (n + m) c2 (l ++ l') ∧ w.grownBy w2 (blkOf A) ∧
      (blkOf A2 = blkOf A ∨ blkOf A2 = some w.heap.size) := by
  obtain ⟨A2, c2, w2, h1, h2, h3, h4⟩ := run_append_cat (P := P) w b0 t ty e i (.int k 0) 1 bytes ht hi hz hsize hby rfl (by omega) A n c _ hown.2 B A' m c' _ (by rw [Nat.mul_one]; exact hr.2) (fun _ _ => rfl) h63 hb8 hbase
  refine ⟨A2, c2, w2, h1, ⟨by rw [List.length_append, ← hown.1, ← hr.1], h2.congr fun j hj => ?_⟩, h3, h4⟩
  unfold cat
  rw [ix_append, ← hown.1, Nat.mul_one]
  split <;> rfl
theorem wpList_app {ops : Array Oper} {rest : List Oper} {o : Oper} {a : Act} {Q : Exit → Act → World → Prop} (k : IntKind) (b0 : Nat) (e : TypeId) (i : TypeInfo) (bytes : Nat) (hgd : Region.wanted o (yielded ops a.tmps) = true) (s x : Operand) (t : TypeId)
    (ho : o.op = .call { callee := .builtin .append, args := #[s, x], argTypes := #[t, t] }) (ht : P.underlying t = some (.slice e)) (hi : P.info? e = some i) (hz : i.zero = some (.int k 0))
    (hsize : i.size = 1) (hby : i.bytes = bytes) {A : Option Addr} {n c : Nat} {l : List Int} (hs : a.eval s = .slice A n c) (hown : OwnI k w b0 e A n c l)
    {B : Nat} {A' : Option Addr} {m c' : Nat} {l' : List Int} (hx : a.eval x = .slice A' m c') (hr : RdI k w B A' m l')
    (h63 : n + m ≤ 1000000000000) (hb8 : bytes ≤ 100) (hbase : b0 ≤ w.heap.size)
    (h : ∀ A2 c2 w2, OwnI k w2 b0 e A2 (n + m) c2 (l ++ l') → w.grownBy w2 (blkOf A) → (blkOf A2 = blkOf A ∨ blkOf A2 = some w.heap.size) → wpList P ops Q rest (a.put o.dst (.slice A2 (n + m) c2)) w2) : wpList P ops Q (o :: rest) a w := by
  refine wpList_step fun K hK => ?_
  rw [if_pos hgd]
  obtain ⟨A2, c2, w2, hrun, h2, h3, h4⟩ := run_app (P := P) (w := w) k b0 t o.type e i bytes ht hi hz hsize hby hown (c' := c') hr h63 hb8 hbase
  unfold Oper.wp execOp
  simp only [ho, resolve, invoke, builtin, Sem.run_bind, Sem.run_pure, Result.andThen_ok, List.map_toArray, List.map_cons, List.map_nil, hs, hx, hrun]
  exact hK _ _ (h A2 c2 w2 h2 h3 h4)
end
end Go.Proofs.Ytlgkiookobedcaa
namespace Go.Proofs.Ytlgkiookobedcaa
open Go.RowKit
set_option linter.unusedVariables false
theorem addr0 (g i : Nat) : (⟨g, 0, none⟩ : Addr).add i = ⟨g, i, none⟩ := by unfold Addr.add; split <;> simp_all
def foot (A : Option Addr) (g : Nat) (k : Nat) : Prop := k = g ∨ blkOf A = some k
structure Chg (w w' : World) (S : Nat → Prop) : Prop where
  os : w'.os = w.os
  tape : w'.tape = w.tape
  output : w'.output = w.output
  size : w.heap.size ≤ w'.heap.size
  block : ∀ k, k < w.heap.size → ¬ S k → w'.heap[k]? = w.heap[k]?
section
variable {w w' w'' : World} {S S' : Nat → Prop}
theorem Chg.refl (w : World) (S : Nat → Prop) : Chg w w S := ⟨rfl, rfl, rfl, Nat.le_refl _, fun _ _ _ => rfl⟩
theorem Chg.trans (h : Chg w w' S) (h' : Chg w' w'' S') (hs : ∀ k, S' k → S k ∨ w.heap.size ≤ k) : Chg w w'' S :=
  ⟨h'.os.trans h.os, h'.tape.trans h.tape, h'.output.trans h.output, Nat.le_trans h.size h'.size, fun k hk hS =>
    (h'.block k (Nat.lt_of_lt_of_le hk h.size) (fun h2 => by rcases hs k h2 with h3 | h3; exact hS h3; omega)).trans (h.block k hk hS)⟩
theorem Chg.more (h : Chg w w' S) (hs : ∀ k, S k → S' k) : Chg w w' S' := ⟨h.os, h.tape, h.output, h.size, fun k hk hS => h.block k hk fun h2 => hS (hs k h2)⟩
theorem Chg.drew (h : Chg w w' S) : Chg w w'.drew S := ⟨h.os, h.tape, h.output, h.size, h.block⟩
theorem Chg.drewN (h : Chg w w' S) (n : Nat) : Chg w (w'.drewN n) S := ⟨h.os, h.tape, h.output, h.size, h.block⟩
theorem Chg.alloc (h : Chg w w' S) (o : Obj) : Chg w (w'.alloc o) S :=
  ⟨h.os, h.tape, h.output, Nat.le_trans h.size (by simp), fun k hk hS => (Below.heap_alloc w' o k (Nat.lt_of_lt_of_le hk h.size)).trans (h.block k hk hS)⟩
theorem Chg.setCell (h : Chg w w' S) {p : Addr} (hp : S p.block ∨ w.heap.size ≤ p.block) (u : Value) : Chg w (w'.setCell p u) S :=
  ⟨h.os, h.tape, h.output, by simpa [World.setCell] using h.size, fun k hk hS => (Below.heap_setCell w' p u k (by
    rintro rfl
    rcases hp with hp | hp
    · exact hS hp
    · omega)).trans (h.block k hk hS)⟩
theorem Chg.grown (h : Chg w w' S) {row : Option Nat} (hg : w'.grownBy w'' row) (hr : ∀ k, row = some k → S k ∨ w.heap.size ≤ k) : Chg w w'' S :=
  ⟨hg.os.trans h.os, hg.tape.trans h.tape, hg.output.trans h.output, Nat.le_trans h.size hg.size, fun k hk hS =>
    (hg.block k (Nat.lt_of_lt_of_le hk h.size) (fun e => by rcases hr k e.symm with h2 | h2; exact hS h2; omega)).trans (h.block k hk hS)⟩
theorem Chg.of_below (h : Below w.heap.size w w') : Chg w w' S := ⟨h.os, h.tape, h.output, h.size, fun k hk _ => h.block k hk⟩
theorem Chg.below {b0 : Nat} (h : Chg w w' S) (hs : ∀ k, S k → b0 ≤ k) (hb : b0 ≤ w.heap.size) : Below b0 w w' :=
  ⟨h.os, h.tape, h.output, h.size, fun k hk => h.block k (by omega) fun h2 => by have := hs k h2; omega⟩
theorem Chg.cell (h : Chg w w' S) {p : Addr} (hp : p.block < w.heap.size) (hS : ¬ S p.block) : w'.cell? p = w.cell? p := World.cell?_of_block (w := w) (h.block p.block hp hS)
theorem Chg.ar {g m : Nat} {f : Nat → Value} (h : Chg w w' S) (ha : Ar w g m f) (hS : ¬ S g) : Ar w' g m f := ha.same (h.block g ha.lt hS)
theorem Chg.own {b0 : Nat} {e : TypeId} {sz n c : Nat} {A : Option Addr} {f : Nat → Value} (h : Chg w w' S) (ha : Own w b0 e sz A n c f) (hS : ∀ g, blkOf A = some g → ¬ S g) : Own w' b0 e sz A n c f :=
  ha.keep fun g hg hlt => h.block g hlt (hS g hg)
theorem Chg.ownI {k : IntKind} {b0 : Nat} {e : TypeId} {n c : Nat} {A : Option Addr} {l : List Int} (h : Chg w w' S) (ha : OwnI k w b0 e A n c l) (hS : ∀ g, blkOf A = some g → ¬ S g) : OwnI k w' b0 e A n c l :=
  ⟨ha.1, h.own ha.2 hS⟩
theorem Chg.rdI {k : IntKind} {B n : Nat} {A : Option Addr} {l : List Int} (h : Chg w w' S) (ha : RdI k w B A n l) (hB : B ≤ w.heap.size) (hS : 0 < n → ∀ ad, A = some ad → ¬ S ad.block) : RdI k w' B A n l :=
  ⟨ha.1, fun hm => by
    obtain ⟨ad, e, hb, hc⟩ := ha.2 hm
    exact ⟨ad, e, hb, fun i hi => (h.cell (by rw [addr_block]; omega) (by rw [addr_block]; exact hS hm ad e)).trans (hc i hi)⟩⟩
end
theorem ix_drop (l : List Int) (k i : Nat) : ix (l.drop k) i = ix l (k + i) := by
  unfold ix
  simp only [List.getD_eq_getElem?_getD, List.getElem?_drop]
theorem RdI.cut {k : IntKind} {w : World} {B n : Nat} {A : Option Addr} {l : List Int} (h : RdI k w B A n l) {j : Nat} (hj : j ≤ n) {A' : Option Addr} (hA : j < n → A' = A.map (·.add j)) : RdI k w B A' (n - j) (l.drop j) := by
  refine ⟨by rw [List.length_drop, h.1], fun hm => ?_⟩
  obtain ⟨ad, rfl, hb, hc⟩ := h.2 (by omega)
  refine ⟨ad.add j, hA (by omega), by rw [addr_block]; exact hb, fun i hi => ?_⟩
  rw [addr_add, hc (j + i) (by omega)]
  show some (Value.int k (ix l (j + i))) = some (Value.int k (ix (List.drop j l) i))
  rw [ix_drop]
end Go.Proofs.Ytlgkiookobedcaa
namespace Go.Proofs.Ytlgkiookobedcaa
set_option linter.unusedVariables false
def addL (l b : List Int) : List Int := if 65536 < (l ++ b).length then (l ++ b).drop ((l ++ b).length - 32768) else l ++ b
def Tail (all l : List Int) : Prop := ∃ k, l = all.drop k ∧ k ≤ all.length ∧ (k = 0 ∨ 32768 ≤ all.length - k)
theorem Tail.nil_ : Tail [] [] := ⟨0, rfl, by simp, .inl rfl⟩
theorem Tail.add {all l : List Int} (h : Tail all l) (b : List Int) : Tail (all ++ b) (addL l b) := by
  obtain ⟨k, rfl, hk, hk2⟩ := h
  have e : all.drop k ++ b = (all ++ b).drop k := by rw [List.drop_append_of_le_length hk]
  unfold addL
  rw [e]
  have hl : ((all ++ b).drop k).length = all.length + b.length - k := by simp
  have hl2 : (all ++ b).length = all.length + b.length := by simp
  split
  · rename_i h
    rw [hl] at h
    rw [hl, List.drop_drop]
    exact ⟨k + (all.length + b.length - k - 32768), rfl, by omega, .inr (by omega)⟩
  · exact ⟨k, rfl, by omega, by omega⟩
theorem Tail.len {all l : List Int} (h : Tail all l) : min l.length 32768 = min all.length 32768 := by
  obtain ⟨k, rfl, hk, hk2⟩ := h
  simp; omega
end Go.Proofs.Ytlgkiookobedcaa
namespace Go.Proofs.Ytlgkiookobedcaa
set_option linter.unusedVariables false
structure Tok where
  lit : Int
  len : Int
  dist : Int
def soundT (t : Tok) : Prop := if t.len = 0 then t.dist = 0 else t.lit = 0 ∧ 3 ≤ t.len ∧ t.len ≤ 258 ∧ 1 ≤ t.dist ∧ t.dist ≤ 32768
instance (t : Tok) : Decidable (soundT t) := by unfold soundT; infer_instance
def again (l : List Int) (D N : Nat) : List Int := (List.range N).map fun i => ix l (l.length - D + i % D)
theorem again_length (l : List Int) (D N : Nat) : (again l D N).length = N := by simp [again]
theorem ix_again (l : List Int) (D N : Nat) {i : Nat} (h : i < N) : ix (again l D N) i = ix l (l.length - D + i % D) := by simp [ix, again, h]
theorem again_zero (l : List Int) (D : Nat) : again l D 0 = [] := rfl
theorem again_succ (l : List Int) (D N : Nat) (hD : 1 ≤ D) (hl : D ≤ l.length) : again l D (N + 1) = again l D N ++ [ix (l ++ again l D N) (l.length + N - D)] := by
  have h1 : again l D (N + 1) = again l D N ++ [ix l (l.length - D + N % D)] := by unfold again; rw [List.range_succ, List.map_append]; rfl
  rw [h1]
  congr 2
  by_cases h : N < D
  · rw [Nat.mod_eq_of_lt h, ix_append, if_pos (by omega)]
    congr 1
    omega
  · rw [ix_append, if_neg (by omega), ix_again _ _ _ (by omega), show l.length + N - D - l.length = N - D by omega, ← Nat.mod_eq_sub_mod (by omega)]
def step (out : List Int) (t : Tok) : Int × List Int :=
  if ¬ soundT t then (1, [])
  else if 16777216 < (out.length : Int) + max t.len 1 then (6, [])
  else if t.len = 0 then (0, out ++ [t.lit])
  else if (out.length : Int) < t.dist then (3, [])
  else (0, out ++ again out t.dist.toNat t.len.toNat)
def expand (out : List Int) : List Tok → Int × List Int
  | [] => (0, out)
  | t :: l => if (step out t).1 = 0 then expand (step out t).2 l else step out t
theorem expand_cons (out : List Int) (t : Tok) (l : List Tok) : expand out (t :: l) = if (step out t).1 = 0 then expand (step out t).2 l else step out t := rfl
theorem step_len {out : List Int} {t : Tok} (h : (step out t).1 = 0) : (step out t).2.length ≤ 16777216 ∧ out.length ≤ (step out t).2.length := by
  unfold step at h ⊢
  by_cases h1 : soundT t
  · rw [if_neg (by simpa using h1)] at h ⊢
    by_cases h2 : 16777216 < (out.length : Int) + max t.len 1
    · rw [if_pos h2] at h; simp at h
    · rw [if_neg h2] at h ⊢
      by_cases h3 : t.len = 0
      · rw [if_pos h3]; simp; omega
      · rw [if_neg h3] at h ⊢
        by_cases h4 : (out.length : Int) < t.dist
        · rw [if_pos h4] at h; simp at h
        · rw [if_neg h4]; simp [again_length]; omega
  · rw [if_pos (by simpa using h1)] at h; simp at h
end Go.Proofs.Ytlgkiookobedcaa
namespace Go.Proofs.Ytlgkiookobedcaa
open Go.RowKit
set_option linter.unusedVariables false
def cutA (A : Option Addr) (c j : Nat) : Option Addr := if c = j then A else A.map (·.add j)
theorem RdI.cutA {k : IntKind} {w : World} {B n c : Nat} {A : Option Addr} {l : List Int} (h : RdI k w B A n l) {j : Nat} (hj : j ≤ n) (hc : n ≤ c) : RdI k w B (cutA A c j) (n - j) (l.drop j) :=
  h.cut hj fun hlt => by unfold Go.Proofs.Ytlgkiookobedcaa.cutA; rw [if_neg (by omega)]
theorem RdI.pre {k : IntKind} {w : World} {B n : Nat} {A : Option Addr} {l : List Int} (h : RdI k w B A n l) {j : Nat} (hj : j ≤ n) : RdI k w B A j (l.take j) := by
  refine ⟨by rw [List.length_take, ← h.1]; omega, fun h0 => ?_⟩
  obtain ⟨ad, e, hb, hc⟩ := h.2 (by omega)
  refine ⟨ad, e, hb, fun i hi => ?_⟩
  rw [hc i (by omega)]
  simp [ix, hi]
section
variable {P : Program} (t e : TypeId) (ht : P.underlying t = some (.slice e)) {i : TypeInfo} (hi : P.info? e = some i) (hs : i.size = 1)
include ht hi hs
theorem run_slice_from (A : Option Addr) (n c : Nat) {j : Nat} (hj : j ≤ n) (W : World) :
    (Instr.slice t (.slice A n c) (some (.int .i64 (j : Int))) none none).run P W = .ok (.slice (cutA A c j) (n - j) (c - j)) W := by
  have he : P.elem t = e := by simp [Program.elem, ht]
  rw [run_slice_l W t A n c (by rw [he]; exact ht) .i64 j (by omega) (by omega), he]
  simp [sizeOf, typeInfo, hi, hs, sliced, cutA]
theorem run_slice_to (A : Option Addr) (n c : Nat) {j : Nat} (hj : j ≤ c) (W : World) :
    (Instr.slice t (.slice A n c) none (some (.int .i64 (j : Int))) none).run P W = .ok (.slice A j c) W := by
  have he : P.elem t = e := by simp [Program.elem, ht]
  rw [run_slice_h W t A n c (by rw [he]; exact ht) .i64 j (by omega) (by omega), he]
  simp [sizeOf, typeInfo, hi, hs, sliced]
  cases A <;> simp [Addr.add]
theorem run_slice_mid (A : Option Addr) (n c : Nat) {a b : Nat} (hab : a ≤ b) (hj : b ≤ c) (W : World) :
    (Instr.slice t (.slice A n c) (some (.int .i64 (a : Int))) (some (.int .i64 (b : Int))) none).run P W = .ok (.slice (cutA A c a) (b - a) (c - a)) W := by
  have he : P.elem t = e := by simp [Program.elem, ht]
  rw [run_slice_lh W t A n c (by rw [he]; exact ht) .i64 .i64 a b (by omega) (by omega) (by omega), he]
  simp [sizeOf, typeInfo, hi, hs, sliced, cutA]
end
end Go.Proofs.Ytlgkiookobedcaa
namespace Go.Proofs.Ytlgkiookobedcaa
open Go.RowKit
set_option linter.unusedVariables false
theorem OwnI.put {k : IntKind} {w : World} {b0 g n c i : Nat} {e : TypeId} {l : List Int} (h : OwnI k w b0 e (some ⟨g, 0, none⟩) n c l) (hi : i < n) (v : Int) : OwnI k (w.setCell ⟨g, i, none⟩ (.int k v)) b0 e (some ⟨g, 0, none⟩) n c (l.set i v) := by
  refine ⟨by rw [List.length_set]; exact h.1, ?_⟩
  rcases h.2 with ⟨h1, _⟩ | ⟨g', cur, r1, r2, r3, r4, r5, r6, r7⟩
  · cases h1
  · injection r1 with r1; injection r1 with r1
    subst r1
    refine .inr ⟨g, cur.setIfInBounds i (.int k v), rfl, r2, ?_, r4, r5, by simpa using r6, fun j hj => ?_⟩
    · simp [World.setCell, Array.getElem?_modify, r3]
    · rw [Array.getElem?_setIfInBounds]
      have hl := h.1
      by_cases he : i = j
      · subst he
        rw [if_pos rfl, if_pos (by rw [r6]; omega)]
        simp [ix, ← hl, hi]
      · rw [if_neg he, r7 j hj]
        simp [ix, he]
end Go.Proofs.Ytlgkiookobedcaa
namespace Go.Proofs.Ytlgkiookobedcaa
open Go.RowKit
set_option linter.unusedVariables false
structure Rn where
  c : Int
  v : Int
  e : Int
def repP (k : Int) (n : Nat) : List Rn :=
  if h0 : n = 0 then []
  else if k = 0 ∧ 11 ≤ n then ⟨18, ((min n 138 : Nat) : Int) - 11, 7⟩ :: repP k (n - min n 138)
  else if k = 0 ∧ 3 ≤ n then [⟨17, (n : Int) - 3, 3⟩]
  else if 0 < k ∧ 3 ≤ n then ⟨16, ((min n 6 : Nat) : Int) - 3, 2⟩ :: repP k (n - min n 6)
  else ⟨k, 0, 0⟩ :: repP k (n - 1)
termination_by n
decreasing_by all_goals omega
theorem repP_zero (k : Int) : repP k 0 = [] := by rw [repP, dif_pos rfl]
theorem repP_long {n : Nat} (h : 11 ≤ n) : repP 0 n = ⟨18, ((min n 138 : Nat) : Int) - 11, 7⟩ :: repP 0 (n - min n 138) := by rw [repP, dif_neg (by omega), if_pos ⟨rfl, h⟩]
theorem repP_short {n : Nat} (h : 3 ≤ n) (h' : ¬ 11 ≤ n) : repP 0 n = [⟨17, (n : Int) - 3, 3⟩] := by rw [repP, dif_neg (by omega), if_neg (by omega), if_pos ⟨rfl, h⟩]
theorem repP_again {k : Int} {n : Nat} (hk : 0 < k) (h : 3 ≤ n) : repP k n = ⟨16, ((min n 6 : Nat) : Int) - 3, 2⟩ :: repP k (n - min n 6) := by rw [repP, dif_neg (by omega), if_neg (by omega), if_neg (by omega), if_pos ⟨hk, h⟩]
theorem repP_one {k : Int} {n : Nat} (h0 : n ≠ 0) (h : n < 3 ∨ k < 0) : repP k n = ⟨k, 0, 0⟩ :: repP k (n - 1) := by rw [repP, dif_neg h0, if_neg (by omega), if_neg (by omega), if_neg (by omega)]
def runN (k : Int) : List Int → Nat
  | [] => 0
  | x :: r => if x = k then runN k r + 1 else 0
theorem runN_le (k : Int) : ∀ r, runN k r ≤ r.length
  | [] => Nat.le_refl _
  | x :: r => by
    unfold runN
    have := runN_le k r
    split <;> simp <;> omega
theorem runN_lt (k : Int) : ∀ (r : List Int) (m : Nat), m ≤ runN k r → (m < runN k r ↔ m < r.length ∧ ix r m = k)
  | [], m, h => by simp [runN]
  | x :: r, m, h => by
    unfold runN at h ⊢
    by_cases hx : x = k
    · rw [if_pos hx] at h ⊢
      cases m with
      | zero => exact ⟨fun _ => ⟨by simp, by simpa [ix] using hx⟩, fun _ => by omega⟩
      | succ m =>
        have := runN_lt k r m (by omega)
        rw [List.length_cons, show ix (x :: r) (m + 1) = ix r m from by simp [ix]]
        constructor
        · intro h2; have := this.1 (by omega); exact ⟨by omega, this.2⟩
        · intro h2; have := this.2 ⟨by omega, h2.2⟩; omega
    · rw [if_neg hx] at h ⊢
      obtain rfl : m = 0 := by omega
      exact ⟨fun h => absurd h (by omega), fun h => absurd (by simpa [ix] using h.2) hx⟩
def runsP (l : List Int) : List Rn :=
  match l with
  | [] => []
  | k :: r => (if 0 < k then ⟨k, 0, 0⟩ :: repP k (runN k r) else repP k (runN k r + 1)) ++ runsP (r.drop (runN k r))
termination_by l.length
decreasing_by simp; omega
theorem runsP_nil : runsP [] = [] := by rw [runsP]
theorem runsP_cons (k : Int) (r : List Int) : runsP (k :: r) = (if 0 < k then ⟨k, 0, 0⟩ :: repP k (runN k r) else repP k (runN k r + 1)) ++ runsP (r.drop (runN k r)) := by rw [runsP]
theorem drop_ix {l : List Int} {i : Nat} (h : i < l.length) : l.drop i = ix l i :: l.drop (i + 1) := by
  rw [List.drop_eq_getElem_cons h]
  simp [ix, h]
theorem runsP_at {l : List Int} {i m : Nat} (h : i < l.length) (hm : runN (ix l i) (l.drop (i + 1)) = m) : runsP (l.drop i) = (if 0 < ix l i then ⟨ix l i, 0, 0⟩ :: repP (ix l i) m else repP (ix l i) (m + 1)) ++ runsP (l.drop (i + (m + 1))) := by
  rw [drop_ix h, runsP_cons, hm, List.drop_drop, show i + 1 + m = i + (m + 1) by omega]
theorem repP_len (k : Int) (n : Nat) : (repP k n).length ≤ n := by
  induction n using Nat.strongRecOn with
  | _ n ih =>
    rw [repP]
    by_cases h0 : n = 0
    · rw [dif_pos h0]; simp
    · rw [dif_neg h0]
      split
      · have := ih (n - min n 138) (by omega); simp; omega
      · split
        · simp; omega
        · split
          · have := ih (n - min n 6) (by omega); simp; omega
          · have := ih (n - 1) (by omega); simp; omega
theorem runsP_len (l : List Int) : (runsP l).length ≤ l.length := by
  generalize hn : l.length = n
  induction n using Nat.strongRecOn generalizing l with
  | _ n ih =>
    cases l with
    | nil => rw [runsP_nil]; simp
    | cons k r =>
      rw [runsP_cons, List.length_append]
      have h1 := ih (r.drop (runN k r)).length (by simp at hn ⊢; omega) _ rfl
      have h2 := runN_le k r
      rw [List.length_drop] at h1
      simp only [List.length_cons] at hn
      split
      · have := repP_len k (runN k r); simp; omega
      · have := repP_len k (runN k r + 1); omega
def RnOk (r : Rn) : Prop := (0 ≤ r.c ∧ r.c ≤ 18) ∧ (0 ≤ r.v ∧ r.v < 128) ∧ (0 ≤ r.e ∧ r.e ≤ 7) ∧ r.v < 2 ^ r.e.toNat ∧ (r.c ≤ 15 → r.v = 0 ∧ r.e = 0) ∧ (r.c = 16 → r.e = 2) ∧ (r.c = 17 → r.e = 3) ∧ (r.c = 18 → r.e = 7)
theorem repP_ok {k : Int} (hk : 0 ≤ k ∧ k ≤ 15) (n : Nat) : ∀ r ∈ repP k n, RnOk r := by
  induction n using Nat.strongRecOn with
  | _ n ih =>
    rw [repP]
    by_cases h0 : n = 0
    · rw [dif_pos h0]; intro r hr; simp at hr
    · rw [dif_neg h0]
      split
      · intro r hr
        rcases List.mem_cons.1 hr with rfl | hr
        · refine ⟨?_, ?_, ?_, ?_, ?_, ?_, ?_, ?_⟩ <;> dsimp only <;> first | omega | (show ((min n 138 : Nat) : Int) - 11 < 128; omega)
        · exact ih _ (by omega) r hr
      · split
        · intro r hr
          rcases List.mem_cons.1 hr with rfl | hr
          · refine ⟨?_, ?_, ?_, ?_, ?_, ?_, ?_, ?_⟩ <;> dsimp only <;> first | omega | (show (n : Int) - 3 < 8; omega)
          · simp at hr
        · split
          · intro r hr
            rcases List.mem_cons.1 hr with rfl | hr
            · refine ⟨?_, ?_, ?_, ?_, ?_, ?_, ?_, ?_⟩ <;> dsimp only <;> first | omega | (show ((min n 6 : Nat) : Int) - 3 < 4; omega)
            · exact ih _ (by omega) r hr
          · intro r hr
            rcases List.mem_cons.1 hr with rfl | hr
            · exact ⟨⟨hk.1, Int.le_trans hk.2 (by decide)⟩, by simp, by simp, by simp, by simp, by dsimp only; omega, by dsimp only; omega, by dsimp only; omega⟩
            · exact ih _ (by omega) r hr
theorem runsP_ok (l : List Int) (h : ∀ i, i < l.length → 0 ≤ ix l i ∧ ix l i ≤ 15) : ∀ r ∈ runsP l, RnOk r := by
  generalize hn : l.length = n
  induction n using Nat.strongRecOn generalizing l with
  | _ n ih =>
    cases l with
    | nil => rw [runsP_nil]; intro r hr; simp at hr
    | cons k r =>
      have hk : 0 ≤ k ∧ k ≤ 15 := by have := h 0 (by simp); simpa [ix] using this
      rw [runsP_cons]
      intro x hx
      rcases List.mem_append.1 hx with hx | hx
      · split at hx
        · rcases List.mem_cons.1 hx with rfl | hx
          · exact ⟨⟨hk.1, Int.le_trans hk.2 (by decide)⟩, by simp, by simp, by simp, by simp, by dsimp only; omega, by dsimp only; omega, by dsimp only; omega⟩
          · exact repP_ok hk _ x hx
        · exact repP_ok hk _ x hx
      · refine ih (r.drop (runN k r)).length (by simp at hn ⊢; omega) _ (fun i hi => ?_) rfl x hx
        rw [ix_drop]
        have := h (runN k r + i + 1) (by rw [List.length_drop] at hi; simp; omega)
        simpa [ix] using this
end Go.Proofs.Ytlgkiookobedcaa
namespace Go.Proofs.Ytlgkiookobedcaa
open Go Go.RowKit
set_option linter.unusedVariables false
structure Eff where
  chain : Nat
  nice : Nat
  lazy : Bool
def effOf (level : Int) : Eff :=
  if level ≤ 0 then ⟨0, 0, false⟩ else if level = 1 then ⟨4, 8, false⟩ else if level = 2 then ⟨8, 16, false⟩ else if level = 3 then ⟨16, 32, false⟩
  else if level = 4 then ⟨16, 16, true⟩ else if level = 5 then ⟨24, 32, true⟩ else if level = 6 then ⟨32, 128, true⟩ else if level = 7 then ⟨64, 128, true⟩
  else if level = 8 then ⟨128, 258, true⟩ else ⟨256, 258, true⟩
theorem effOf_bd (level : Int) : (effOf level).chain ≤ 256 ∧ (effOf level).nice ≤ 258 := by
  unfold effOf
  repeat' split
  all_goals exact ⟨by decide, by decide⟩
structure FSt where
  D : List Int
  P : List Int
  base : Nat
  at_ : Nat
  head : Int → Option Int
def hs3 (a b c : Int) : Int := (a * 65536 + b * 256 + c) * 2654435761 % 4294967296 / 131072
theorem hs3_bd (a b c : Int) : 0 ≤ hs3 a b c ∧ hs3 a b c < 32768 := by unfold hs3; omega
def hashAt (D : List Int) (p : Nat) : Int := hs3 (ix D p) (ix D (p + 1)) (ix D (p + 2))
def smF (D : List Int) (a b : Nat) : Nat → Nat → Nat
  | 0, n => n
  | f + 1, n => if ix D (a + n) = ix D (b + n) then smF D a b f (n + 1) else n
def sameN (D : List Int) (a b : Nat) : Nat := smF D a b (min 258 (D.length - b)) 0
theorem smF_le (D : List Int) (a b f n : Nat) : n ≤ smF D a b f n ∧ smF D a b f n ≤ n + f := by
  induction f generalizing n with
  | zero => exact ⟨Nat.le_refl _, by simp [smF]⟩
  | succ f ih =>
    unfold smF
    split
    · have := ih (n + 1); omega
    · omega
theorem smF_alike (D : List Int) (a b f n : Nat) (h : ∀ i, i < n → ix D (a + i) = ix D (b + i)) : ∀ i, i < smF D a b f n → ix D (a + i) = ix D (b + i) := by
  induction f generalizing n with
  | zero => exact h
  | succ f ih =>
    unfold smF
    split
    · rename_i e
      exact ih (n + 1) fun i hi => by
        by_cases h2 : i = n
        · subst h2; exact e
        · exact h i (by omega)
    · exact h
theorem sameN_bd (D : List Int) (a b : Nat) : sameN D a b ≤ 258 ∧ sameN D a b ≤ D.length - b := by
  have := (smF_le D a b (min 258 (D.length - b)) 0).2
  unfold sameN; omega
theorem sameN_alike (D : List Int) (a b : Nat) : ∀ i, i < sameN D a b → ix D (a + i) = ix D (b + i) := smF_alike D a b _ 0 fun i hi => by omega
def bestF (D P : List Int) (base p nice : Nat) : Nat → Int → Nat × Nat → Nat × Nat
  | 0, _, t => t
  | tries + 1, k, t =>
    if (base : Int) ≤ k ∧ (p : Int) - 32768 ≤ k then
      if 3 ≤ sameN D k.toNat p ∧ t.1 < sameN D k.toNat p then
        if nice ≤ sameN D k.toNat p then (sameN D k.toNat p, p - k.toNat) else bestF D P base p nice tries (ix P k.toNat) (sameN D k.toNat p, p - k.toNat)
      else bestF D P base p nice tries (ix P k.toNat) t
    else t
def bestOf (e : Eff) (st : FSt) (p : Nat) : Nat × Nat :=
  if e.chain = 0 ∨ st.D.length < p + 3 then (0, 0)
  else match st.head (hashAt st.D p) with
    | none => (0, 0)
    | some k => bestF st.D st.P st.base p e.nice e.chain k (0, 0)
theorem bestOf_zero {e : Eff} {st : FSt} {p : Nat} (h : e.chain = 0 ∨ st.D.length < p + 3) : bestOf e st p = (0, 0) := by unfold bestOf; rw [if_pos h]
theorem bestOf_none {e : Eff} {st : FSt} {p : Nat} (h : st.head (hashAt st.D p) = none) : bestOf e st p = (0, 0) := by
  unfold bestOf
  split
  · rfl
  · rw [h]
theorem bestOf_some {e : Eff} {st : FSt} {p : Nat} {k : Int} (h1 : e.chain ≠ 0) (h2 : p + 3 ≤ st.D.length) (h : st.head (hashAt st.D p) = some k) : bestOf e st p = bestF st.D st.P st.base p e.nice e.chain k (0, 0) := by
  unfold bestOf
  rw [if_neg (by omega), h]
def was (st : FSt) (h : Int) : Int := (st.head h).getD (-1)
def enterF (e : Eff) (st : FSt) (p : Nat) : FSt :=
  if e.chain = 0 ∨ st.D.length < p + 3 then st
  else { st with P := st.P.set p (was st (hashAt st.D p)), head := fun x => if x = hashAt st.D p then some (p : Int) else st.head x }
def moved (st : FSt) : FSt := { st with at_ := st.at_ + 1 }
def passF (e : Eff) : Nat → FSt → FSt
  | 0, st => st
  | n + 1, st => passF e n (moved (enterF e st st.at_))
def litAt (st : FSt) : Tok := ⟨ix st.D st.at_, 0, 0⟩
def nextF (e : Eff) (st : FSt) : Tok × FSt :=
  if (bestOf e st st.at_).1 = 0 then (litAt st, passF e 1 st)
  else if e.lazy = true ∧ (bestOf e st st.at_).1 < e.nice ∧ st.at_ + 1 < st.D.length then
    if (bestOf e st st.at_).1 < (bestOf e (enterF e st st.at_) (st.at_ + 1)).1 then (litAt st, moved (enterF e st st.at_))
    else (⟨0, (bestOf e st st.at_).1, (bestOf e st st.at_).2⟩, passF e ((bestOf e st st.at_).1 - 1) (moved (enterF e st st.at_)))
  else (⟨0, (bestOf e st st.at_).1, (bestOf e st st.at_).2⟩, passF e (bestOf e st st.at_).1 st)
inductive Run (e : Eff) (left : Nat) : FSt → List Tok → FSt → Prop
  | nil (st : FSt) : Run e left st [] st
  | snoc {st st1 : FSt} {l : List Tok} : Run e left st l st1 → left < st1.D.length - st1.at_ → Run e left st (l ++ [(nextF e st1).1]) (nextF e st1).2
def writeF (st : FSt) (b : List Int) : FSt :=
  { D := st.D ++ b, P := st.P ++ List.replicate b.length 0, at_ := st.at_, head := st.head,
    base := if 131072 < (st.D ++ b).length - st.base ∧ 32768 < st.at_ - st.base then st.at_ - 32768 else st.base }
def newF : FSt := ⟨[], [], 0, 0, fun _ => none⟩
structure FSt.Ok (st : FSt) (b : Nat) : Prop where
  len : st.P.length = st.D.length
  lo : st.base ≤ st.at_
  hi : st.at_ ≤ st.D.length
  bl : b ≤ st.D.length
  prev : ∀ q, -1 ≤ ix st.P q ∧ ix st.P q ≤ q
  hd : ∀ h k, st.head h = some k → 0 ≤ k ∧ k < (b : Int)
theorem ix_set (l : List Int) (p q : Nat) (v : Int) (hp : p < l.length) : ix (l.set p v) q = if q = p then v else ix l q := by
  unfold ix
  simp only [List.getD_eq_getElem?_getD, List.getElem?_set]
  by_cases h : q = p
  · subst h; rw [if_pos rfl, if_pos rfl, if_pos hp]; rfl
  · rw [if_neg h, if_neg (fun e => h e.symm)]
theorem ix_out (l : List Int) {q : Nat} (h : l.length ≤ q) : ix l q = 0 := by
  unfold ix; rw [List.getD_eq_getElem?_getD, List.getElem?_eq_none h]; rfl
theorem ix_rep (n q : Nat) : ix (List.replicate n 0) q = 0 := by
  by_cases h : q < n
  · simp [ix, h]
  · exact ix_out _ (by simp; omega)
theorem Ok.new : FSt.Ok newF 0 := ⟨rfl, Nat.le_refl _, Nat.le_refl _, Nat.le_refl _, fun q => by simp [newF, ix], fun h k hk => by simp [newF] at hk⟩
theorem FSt.Ok.write {st : FSt} {b : Nat} (h : st.Ok b) (x : List Int) : (writeF st x).Ok b := by
  refine ⟨?_, ?_, ?_, ?_, fun q => ?_, h.hd⟩
  · simp [writeF, h.len]
  · have := h.lo; unfold writeF; dsimp only; split <;> omega
  · have := h.hi; unfold writeF; simp; omega
  · have := h.bl; unfold writeF; simp; omega
  · unfold writeF; dsimp only
    rw [ix_append]
    split
    · exact h.prev q
    · rw [ix_rep]; omega
theorem was_bd {st : FSt} {b : Nat} (h : st.Ok b) (x : Int) : -1 ≤ was st x ∧ was st x < (b : Int) := by
  unfold was
  cases e : st.head x with
  | none => simp; omega
  | some k => have := h.hd x k e; simp; omega
theorem FSt.Ok.enter {e : Eff} {st : FSt} {p : Nat} (h : st.Ok p) (hp : p < st.D.length) : (enterF e st p).Ok (p + 1) := by
  unfold enterF
  split
  · exact ⟨h.len, h.lo, h.hi, hp, h.prev, fun x k hk => by have := h.hd x k hk; omega⟩
  · rename_i hc
    refine ⟨by simp [h.len], h.lo, h.hi, hp, fun q => ?_, fun x k hk => ?_⟩
    · dsimp only
      rw [ix_set _ _ _ _ (by rw [h.len]; exact hp)]
      split
      · have := was_bd h (hashAt st.D p); omega
      · exact h.prev q
    · dsimp only at hk
      split at hk
      · injection hk with hk; omega
      · have := h.hd x k hk; omega
theorem enter_D (e : Eff) (st : FSt) (p : Nat) : (enterF e st p).D = st.D ∧ (enterF e st p).at_ = st.at_ ∧ (enterF e st p).base = st.base := by
  unfold enterF; split <;> exact ⟨rfl, rfl, rfl⟩
theorem FSt.Ok.moved {st : FSt} (h : st.Ok (st.at_ + 1)) : (moved st).Ok (Go.Proofs.Ytlgkiookobedcaa.moved st).at_ :=
  ⟨h.len, Nat.le_succ_of_le h.lo, h.bl, h.bl, h.prev, h.hd⟩
theorem pass_ok {e : Eff} {st : FSt} {n : Nat} (h : st.Ok st.at_) (hn : st.at_ + n ≤ st.D.length) : (passF e n st).Ok (st.at_ + n) ∧ (passF e n st).D = st.D ∧ (passF e n st).at_ = st.at_ + n ∧ (passF e n st).base = st.base := by
  induction n generalizing st with
  | zero => exact ⟨h, rfl, rfl, rfl⟩
  | succ n ih =>
    have h1 := h.enter (e := e) (p := st.at_) (by omega)
    obtain ⟨e1, e2, e3⟩ := enter_D e st st.at_
    have h2 : (enterF e st st.at_).Ok ((enterF e st st.at_).at_ + 1) := by rw [e2]; exact h1
    have h3 := h2.moved
    have e4 : (moved (enterF e st st.at_)).at_ = st.at_ + 1 := by show (enterF e st st.at_).at_ + 1 = _; rw [e2]
    have e5 : (moved (enterF e st st.at_)).D = st.D := e1
    obtain ⟨r1, r2, r3, r4⟩ := ih (st := moved (enterF e st st.at_)) h3 (by rw [e4, e5]; omega)
    rw [e4] at r1 r3
    refine ⟨by rw [show st.at_ + (n + 1) = st.at_ + 1 + n by omega]; exact r1, by rw [show passF e (n + 1) st = passF e n (moved (enterF e st st.at_)) from rfl, r2, e5], by rw [show passF e (n + 1) st = passF e n (moved (enterF e st st.at_)) from rfl, r3]; omega, by rw [show passF e (n + 1) st = passF e n (moved (enterF e st st.at_)) from rfl, r4]; exact e3⟩
def Good (D : List Int) (p : Nat) (t : Nat × Nat) : Prop := t.1 = 0 ∧ t.2 = 0 ∨ (3 ≤ t.1 ∧ t.1 ≤ 258 ∧ p + t.1 ≤ D.length ∧ 1 ≤ t.2 ∧ t.2 ≤ 32768 ∧ t.2 ≤ p ∧ ∀ i, i < t.1 → ix D (p - t.2 + i) = ix D (p + i))
theorem bestF_good {D P : List Int} {base p nice : Nat} (hp : p ≤ D.length) (hP : ∀ q, -1 ≤ ix P q ∧ ix P q ≤ q) (n : Nat) (k : Int) (t : Nat × Nat) (hk : k < p) (ht : Good D p t) : Good D p (bestF D P base p nice n k t) := by
  induction n generalizing k t with
  | zero => exact ht
  | succ n ih =>
    unfold bestF
    split
    · rename_i hc
      obtain ⟨K, rfl⟩ := Int.eq_ofNat_of_zero_le (show 0 ≤ k by omega)
      have hq := hP K
      have hg : 3 ≤ sameN D K p ∧ t.1 < sameN D K p → Good D p (sameN D K p, p - K) := fun h => by
        have hb := sameN_bd D K p
        refine .inr ⟨h.1, hb.1, by simp only; omega, by simp only; omega, by simp only; omega, by simp only; omega, fun i hi => ?_⟩
        have := sameN_alike D K p i hi
        rw [show p - (p - K) = K by omega]
        exact this
      simp only [Int.toNat_natCast]
      split
      · rename_i hs
        split
        · exact hg hs
        · exact ih _ _ (by omega) (hg hs)
      · exact ih _ _ (by omega) ht
    · exact ht
theorem best_good {e : Eff} {st : FSt} {p : Nat} (h : st.Ok p) : Good st.D p (bestOf e st p) := by
  unfold bestOf
  split
  · exact .inl ⟨rfl, rfl⟩
  · split
    · exact .inl ⟨rfl, rfl⟩
    · rename_i k hk
      exact bestF_good h.bl h.prev _ _ _ (h.hd _ _ hk).2 (.inl ⟨rfl, rfl⟩)
theorem best_some {e : Eff} {st : FSt} {p : Nat} (h : (bestOf e st p).1 ≠ 0) : e.chain ≠ 0 ∧ p + 3 ≤ st.D.length := by
  unfold bestOf at h
  split at h
  · simp at h
  · omega
theorem next_ok {e : Eff} {st : FSt} (h : st.Ok st.at_) (hlt : st.at_ < st.D.length) : ∃ N, 1 ≤ N ∧ N ≤ 258 ∧ st.at_ + N ≤ st.D.length ∧ (nextF e st).2.Ok (st.at_ + N) ∧ (nextF e st).2.D = st.D ∧ (nextF e st).2.at_ = st.at_ + N ∧ (nextF e st).2.base = st.base ∧
    (((nextF e st).1 = litAt st ∧ N = 1) ∨ ∃ dist : Nat, (nextF e st).1 = ⟨0, N, dist⟩ ∧ Good st.D st.at_ (N, dist) ∧ e.chain ≠ 0 ∧ 3 ≤ N) := by
  have hg := best_good (e := e) h
  unfold nextF
  split
  · obtain ⟨r1, r2, r3, r4⟩ := pass_ok (e := e) (n := 1) h (by omega)
    exact ⟨1, Nat.le_refl _, by omega, by omega, r1, r2, r3, r4, .inl ⟨rfl, rfl⟩⟩
  · rename_i h0
    have hsome := best_some h0
    obtain ⟨B, hB⟩ : ∃ B, bestOf e st st.at_ = B := ⟨_, rfl⟩
    rw [hB] at hg h0 ⊢
    obtain ⟨N, dist⟩ := B
    rcases hg with ⟨hz, _⟩ | ⟨g1, g2, g3, g4⟩
    · exact absurd hz h0
    dsimp only at g1 g2 g3 g4 ⊢
    have h1 := h.enter (e := e) (p := st.at_) hlt
    obtain ⟨e1, e2, e3⟩ := enter_D e st st.at_
    have h2 : (enterF e st st.at_).Ok ((enterF e st st.at_).at_ + 1) := by rw [e2]; exact h1
    have h3 := h2.moved
    have e4 : (moved (enterF e st st.at_)).at_ = st.at_ + 1 := by show (enterF e st st.at_).at_ + 1 = _; rw [e2]
    have e5 : (moved (enterF e st st.at_)).D = st.D := e1
    split
    · split
      · refine ⟨1, Nat.le_refl _, by omega, by omega, ?_, e5, e4, e3, .inl ⟨rfl, rfl⟩⟩
        rw [e4] at h3; exact h3
      · obtain ⟨r1, r2, r3, r4⟩ := pass_ok (e := e) (n := N - 1) h3 (by rw [e4, e5]; omega)
        rw [e4] at r1 r3
        rw [show st.at_ + 1 + (N - 1) = st.at_ + N by omega] at r1 r3
        exact ⟨N, by omega, by omega, g3, r1, by rw [r2, e5], r3, by rw [r4]; exact e3, .inr ⟨dist, rfl, .inr ⟨g1, g2, g3, g4⟩, hsome.1, g1⟩⟩
    · obtain ⟨r1, r2, r3, r4⟩ := pass_ok (e := e) (n := N) h g3
      exact ⟨N, by omega, by omega, g3, r1, r2, r3, r4, .inr ⟨dist, rfl, .inr ⟨g1, g2, g3, g4⟩, hsome.1, g1⟩⟩
theorem run_ok {e : Eff} {left : Nat} {st st' : FSt} {l : List Tok} (h : Run e left st l st') (hok : st.Ok st.at_) : st'.Ok st'.at_ ∧ st'.D = st.D ∧ st.at_ + l.length ≤ st'.at_ ∧ st'.base = st.base := by
  induction h with
  | nil => exact ⟨hok, rfl, Nat.le_refl _, rfl⟩
  | snoc h1 h2 ih =>
    obtain ⟨i1, i2, i3, i4⟩ := ih
    obtain ⟨N, n1, -, -, n4, n5, n6, n7, -⟩ := next_ok (e := e) i1 (by omega)
    refine ⟨by rw [n6]; exact n4, by rw [n5, i2], by rw [n6]; simp; omega, by rw [n7, i4]⟩
end Go.Proofs.Ytlgkiookobedcaa
namespace Go.Proofs.Ytlgkiookobedcaa
open Go.RowKit
set_option linter.unusedVariables false
section
variable {w w' w0 : World} {b0 g : Nat} {c c0 : Nat → Nat}
def DE (b0 : Nat) (w0 : World) (c0 : Nat → Nat) (w : World) (c : Nat → Nat) : Prop := Below b0 w0 w ∧ Chg w0 w (fun k => c0 k ≠ 0) ∧ ∀ k, k < w0.heap.size → c k = c0 k
open Classical in
noncomputable def colour (c : Nat → Nat) (n : Nat) (F : Nat → Prop) (i : Nat) : Nat → Nat := fun k => if k < n then c k else if F k then i else 0
theorem colour_old {c : Nat → Nat} {n : Nat} {F : Nat → Prop} {i k : Nat} (h : k < n) : colour c n F i k = c k := by unfold colour; rw [if_pos h]
theorem colour_new {c : Nat → Nat} {n : Nat} {F : Nat → Prop} {i k : Nat} (h : n ≤ k) (hF : F k) : colour c n F i k = i := by unfold colour; rw [if_neg (by omega), if_pos hF]
theorem colour_ne {c : Nat → Nat} {n : Nat} {F : Nat → Prop} {i k : Nat} (h : colour c n F i k ≠ 0) : (k < n ∧ c k ≠ 0) ∨ (n ≤ k ∧ F k) := by
  unfold colour at h
  split at h
  · exact .inl ⟨by assumption, h⟩
  · split at h
    · exact .inr ⟨by omega, by assumption⟩
    · exact absurd rfl h
theorem DE.step {c' : Nat → Nat} (h : DE b0 w0 c0 w c) (hB : b0 ≤ w.heap.size) (hcb : ∀ k, c k ≠ 0 → b0 ≤ k) (hc : Chg w w' (fun k => c k ≠ 0)) (he : ∀ k, k < w.heap.size → c' k = c k) : DE b0 w0 c0 w' c' :=
  ⟨h.1.trans (hc.below hcb hB), h.2.1.trans hc (fun k hk => by
    rcases Nat.lt_or_ge k w0.heap.size with h1 | h1
    · exact .inl (by rw [← h.2.2 k h1]; exact hk)
    · exact .inr h1), fun k hk => (he k (Nat.lt_of_lt_of_le hk h.2.1.size)).trans (h.2.2 k hk)⟩
end
end Go.Proofs.Ytlgkiookobedcaa
