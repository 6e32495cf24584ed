/-
  Words for memory, over any program: a slice that the call owns (it may be appended to), and the law of append on it.
-/
import Derived.Test.YtckhkkjdibcclaaBase
import Derived.Maps.AppendAt
import Derived.OwnWalk
namespace Go.Proofs.Ytckhkkjdibcclaa
open Go.RowKit
set_option linter.unusedVariables false

/-- f on the first n places, g behind. -/
def cat {α : Type} (n : Nat) (f g : Nat → α) : Nat → α := fun i => if i < n then f i else g (i - n)
def blkOf (A : Option Addr) : Option Nat := A.map (·.block)

/-- The slice .slice A n c is nil, or lies at the head of a block from b0 on that nothing else shares the length of; its first m cells (m = n x cells per element) are f 0, f 1, .. -/
def Own (w : World) (b0 : Nat) (e : TypeId) (sz : Nat) (A : Option Addr) (n c : Nat) (f : Nat → Value) : Prop :=
  (A = none ∧ n = 0 ∧ c = 0) ∨ ∃ (g : Nat) (cur : Array Value), A = some ⟨g, 0, none⟩ ∧ b0 ≤ g ∧ w.heap[g]? = some (.cells cur e (0, 0)) ∧ n ≤ c ∧ c ≤ maxLen ∧ cur.size = c * sz ∧ ∀ i, i < n * sz → cur[i]? = some (f i)

section
variable {w w' : World} {b0 : Nat} {e : TypeId} {sz n c : Nat} {A : Option Addr} {f : Nat → Value}
theorem Own.nil_ : Own w b0 e sz none 0 0 f := .inl ⟨rfl, rfl, rfl⟩
theorem Own.keep (h : Own w b0 e sz A n c f) (hk : ∀ g, blkOf A = some g → g < w.heap.size → w'.heap[g]? = w.heap[g]?) : Own w' b0 e sz A n c f := by
  rcases h with h | ⟨g, cur, rfl, h1, h2, r⟩
  · exact .inl h
  · exact .inr ⟨g, cur, rfl, h1, (hk g rfl (lt_of_block h2)).trans h2, r⟩
theorem Own.alloc (h : Own w b0 e sz A n c f) (o : Obj) : Own (w.alloc o) b0 e sz A n c f := h.keep fun g _ hlt => Below.heap_alloc w o g hlt
theorem Own.drewN (h : Own w b0 e sz A n c f) (k : Nat) : Own (w.drewN k) b0 e sz A n c f := h
theorem Own.drew (h : Own w b0 e sz A n c f) : Own w.drew b0 e sz A n c f := h
theorem Own.far (h : Own w b0 e sz A n c f) {p : Addr} (hp : blkOf A ≠ some p.block) (u : Value) : Own (w.setCell p u) b0 e sz A n c f :=
  h.keep fun g hg _ => Below.heap_setCell w p u g (fun e => hp (by rw [hg, e]))
theorem Own.below {B : Nat} (h : Own w b0 e sz A n c f) (hb : Below B w w') (hB : ∀ g, blkOf A = some g → g < B) : Own w' b0 e sz A n c f := h.keep fun g hg _ => hb.block g (hB g hg)
theorem Own.grown {row : Option Nat} (h : Own w b0 e sz A n c f) (hg : w.grownBy w' row) (hr : blkOf A ≠ row ∨ blkOf A = none) : Own w' b0 e sz A n c f :=
  h.keep fun g hgA hlt => hg.block g hlt (fun e => by
    rcases hr with hr | hr
    · exact hr (hgA.trans e)
    · rw [hr] at hgA; cases hgA)
theorem Own.lt (h : Own w b0 e sz A n c f) {g : Nat} (hg : blkOf A = some g) : b0 ≤ g ∧ g < w.heap.size := by
  rcases h with ⟨rfl, _⟩ | ⟨g', cur, rfl, h1, h2, _⟩
  · simp [blkOf] at hg
  · simp [blkOf] at hg; subst hg; exact ⟨h1, lt_of_block h2⟩
theorem Own.congr {f' : Nat → Value} (h : Own w b0 e sz A n c f) (hf : ∀ i, i < n * sz → f i = f' i) : Own w b0 e sz A n c f' := by
  rcases h with h | ⟨g, cur, r1, r2, r3, r4, r5, r6, h7⟩
  · exact .inl h
  · exact .inr ⟨g, cur, r1, r2, r3, r4, r5, r6, fun i hi => by rw [h7 i hi, hf i hi]⟩
theorem Own.more {b1 : Nat} (h : Own w b0 e sz A n c f) (hb : b1 ≤ b0) : Own w b1 e sz A n c f := by
  rcases h with h | ⟨g, cur, r1, r2, r⟩
  · exact .inl h
  · exact .inr ⟨g, cur, r1, Nat.le_trans hb r2, r⟩
theorem Own.rd (h : Own w b0 e sz A n c f) : Rd w w.heap.size A (n * sz) f := fun hm => by
  rcases h with ⟨_, rfl, _⟩ | ⟨g, cur, rfl, _, h2, h3, _, h5, h6⟩
  · simp at hm
  · refine ⟨_, rfl, lt_of_block h2, fun i hi => ?_⟩
    have : (⟨g, 0, none⟩ : Addr).add i = ⟨g, i, none⟩ := by unfold Addr.add; split <;> simp_all
    rw [this, cell_of_row w g i cur e (0, 0) h2, h6 i hi]
theorem Own.capLe (h : Own w b0 e sz A n c f) : n ≤ c := by
  rcases h with ⟨_, rfl, rfl⟩ | ⟨g, cur, _, _, _, h3, _⟩
  · exact Nat.le_refl _
  · exact h3
theorem Own.owns (h : Own w b0 e sz A n c f) : w.ownsRow b0 e sz (.slice A n c) n ((List.range (n * sz)).map f) := by
  refine ⟨by simp, ?_⟩
  rcases h with ⟨rfl, rfl, rfl⟩ | ⟨g, cur, rfl, h1, h2, h3, h4, h5, h6⟩
  · exact .inl ⟨rfl, rfl⟩
  · refine .inr ⟨g, c, cur, rfl, h1, h2, h3, h4, h5, ?_⟩
    apply List.ext_getElem?
    intro i
    rw [List.getElem?_take]
    by_cases hi : i < n * sz
    · rw [if_pos hi]
      have := h6 i hi
      simp [hi, this]
    · rw [if_neg hi]; simp [hi]
theorem own_of_owns {v : Value} {xs : List Value} (h : w.ownsRow b0 e sz v n xs) (hx : ∀ i, i < n * sz → xs[i]? = some (f i)) : ∃ A c, v = .slice A n c ∧ Own w b0 e sz A n c f ∧ v.ownBlock = blkOf A := by
  obtain ⟨hl, h2⟩ := h
  rcases h2 with ⟨rfl, rfl⟩ | ⟨g, cap, cur, rfl, h1, h2, h3, h4, h5, h6⟩
  · exact ⟨none, 0, rfl, .inl ⟨rfl, rfl, rfl⟩, rfl⟩
  · refine ⟨_, _, rfl, .inr ⟨g, cur, rfl, h1, h2, h3, h4, h5, fun i hi => ?_⟩, rfl⟩
    have := hx i hi
    rw [← h6, List.getElem?_take, if_pos hi] at this
    simpa using this
/-- A new block of a literal's cells. -/
theorem Own.lit {g : Nat} (hg : g = w.heap.size) (cs : Array Value) (e : TypeId) {n : Nat} (hb : b0 ≤ w.heap.size) (hn : n ≤ maxLen) (hs : cs.size = n * sz) (hf : ∀ i, i < n * sz → cs[i]? = some (f i)) :
    Own (w.alloc (.cells cs e)) b0 e sz (some ⟨g, 0, none⟩) n n f := by
  subst hg
  exact .inr ⟨_, cs, rfl, hb, heap_alloc_new w _, Nat.le_refl _, hn, hs, hf⟩
/-- A store into a place of the row. -/
theorem Own.set_ {g : Nat} (h : Own w b0 e sz (some ⟨g, 0, none⟩) n c f) {i : Nat} (hi : i < n * sz) (u : Value) : Own (w.setCell ⟨g, i, none⟩ u) b0 e sz (some ⟨g, 0, none⟩) n c (upd f i u) := by
  rcases h with ⟨h, _⟩ | ⟨g', cur, hA, h1, h2, h3, h4, h5, h6⟩
  · cases h
  · cases hA
    refine .inr ⟨_, cur.setIfInBounds i u, rfl, h1, ?_, h3, h4, by simpa using h5, fun j hj => ?_⟩
    · simp [World.setCell, Array.getElem?_modify, h2]
    · rw [Array.getElem?_setIfInBounds]
      by_cases he : i = j
      · subst he
        have : i < cur.size := by rw [h5]; exact Nat.lt_of_lt_of_le hj (Nat.mul_le_mul_right _ h3)
        rw [if_pos rfl, if_pos this, upd_same]
      · rw [if_neg he, h6 j hj, upd_other _ _ (by omega)]
theorem Own.cell {g : Nat} (h : Own w b0 e sz (some ⟨g, 0, none⟩) n c f) {i : Nat} (hi : i < n * sz) : w.cell? ⟨g, i, none⟩ = some (f i) := by
  rcases h with ⟨h, _⟩ | ⟨g', cur, hA, h1, h2, h3, h4, h5, h6⟩
  · cases h
  · cases hA
    rw [cell_of_row w _ i cur e (0, 0) h2, h6 i hi]
theorem Own.frozen {g : Nat} (h : Own w b0 e sz (some ⟨g, 0, none⟩) n c f) (i : Nat) : w.frozen? ⟨g, i, none⟩ = false := by
  rcases h with ⟨h, _⟩ | ⟨g', cur, hA, h1, h2, _⟩
  · cases h
  · cases hA; simp [World.frozen?, h2]
theorem Own.addr (h : Own w b0 e sz A n c f) (hn : 0 < n) : ∃ g, A = some ⟨g, 0, none⟩ := by
  rcases h with ⟨_, h, _⟩ | ⟨g', cur, hA, _⟩
  · omega
  · exact ⟨_, hA⟩
end

section
variable {P : Program} (w : World)
/-- append onto such a row, whatever the source (nil too). -/
theorem run_append_cat (b0 : Nat) (t ty e : TypeId) (i : TypeInfo) (z : Value) (sz bytes : Nat) (ht : P.underlying t = some (.slice e)) (hi : P.info? e = some i) (hz : i.zero = some z)
    (hsize : i.size = sz) (hby : i.bytes = bytes) (hzs : z.cells.size = sz) (hsz : 0 < sz)
    (A : Option Addr) (n c : Nat) (f : Nat → Value) (hown : Own w b0 e sz A n c f)
    (B : Nat) (A' : Option Addr) (m c' : Nat) (f' : Nat → Value) (hr : Rd w B A' (m * sz) f') (h1 : ∀ j, j < m * sz → (f' j).oneCell' = true)
    (h63 : n + m ≤ 1000000000000) (hb8 : bytes ≤ 100) (hbase : b0 ≤ w.heap.size) :
    ∃ A2 c2 w2, (Builtin.append_ #[t, t] ty #[.slice A n c, .slice A' m c']).run P w = .ok (.slice A2 (n + m) c2) w2 ∧ Own w2 b0 e sz A2 (n + m) c2 (cat (n * sz) f f') ∧ w.grownBy w2 (blkOf A) ∧
      (blkOf A2 = blkOf A ∨ blkOf A2 = some w.heap.size) := by
  have hcat0 : m = 0 → Own w b0 e sz A (n + m) c (cat (n * sz) f f') := by
    rintro rfl
    exact hown.congr fun j hj => by unfold cat; rw [if_pos hj]
  have hbk : (Value.slice A n c).ownBlock = blkOf A := by cases A <;> rfl
  rcases A' with _ | ad
  · have hm : m = 0 := by
      rcases Nat.eq_zero_or_pos m with h0 | h0
      · exact h0
      · obtain ⟨ad, h, _⟩ := hr (Nat.mul_pos h0 hsz)
        cases h
    subst hm
    refine ⟨A, c, w, ?_, hcat0 rfl, World.grownBy.refl w _, .inl rfl⟩
    rcases hown with ⟨rfl, rfl, rfl⟩ | ⟨g, cur, rfl, _, _, hnc, _⟩
    · simp [Builtin.append_, run_underlying ht, sizeOf, typeInfo, hi, Builtin.lenOf, Builtin.firstCells]
    · simp [Builtin.append_, run_underlying ht, sizeOf, typeInfo, hi, Builtin.lenOf, Builtin.firstCells, hnc, storeCells]
  · have hcells : ∀ j u, ((List.range (m * sz)).map f')[j]? = some u → w.cell? (ad.add j) = some u := by
      intro j u hu
      have hj : j < m * sz := by
        rcases Nat.lt_or_ge j (m * sz) with h' | h'
        · exact h'
        · rw [List.getElem?_eq_none (by simpa using h')] at hu; cases hu
      obtain ⟨ad', h, _, hc⟩ := hr (by omega)
      injection h with h
      subst h
      rw [hc j hj]
      simpa [hj] using hu
    have hone : ∀ u ∈ (List.range (m * sz)).map f', u.oneCell' = true := by
      intro u hu
      obtain ⟨j, hj, rfl⟩ := List.mem_map.1 hu
      exact h1 j (by simpa using hj)
    have hbb : (n + m) * bytes ≤ 140737488355328 := by
      calc (n + m) * bytes ≤ 1000000000000 * 100 := Nat.mul_le_mul h63 hb8
        _ ≤ 140737488355328 := by omega
    obtain ⟨v', w', hrun, h2, h3, _, h5⟩ := run_append_own_at (P := P) w b0 t ty e i z sz bytes ht hi hz hsize hby hzs hsz _ n _ hown.owns ad m c' _ (by simp) hcells hone (by unfold maxLen; omega) hbb hbase
    obtain ⟨A2, c2, rfl, ho, hbk2⟩ := own_of_owns (f := cat (n * sz) f f') h2 (fun j hj => by
      unfold cat
      rw [Nat.add_mul] at hj
      by_cases h' : j < n * sz
      · rw [if_pos h', List.getElem?_append_left (by simpa using h')]
        simp [h']
      · rw [if_neg h', List.getElem?_append_right (by simp; omega)]
        have : j - n * sz < m * sz := by omega
        simp [this])
    refine ⟨A2, c2, w', hrun, ho, by rw [← hbk]; exact h3, ?_⟩
    rw [← hbk2, ← hbk]
    exact h5
end

/-- The same at a row of numbers. -/
def OwnI (k : IntKind) (w : World) (b0 : Nat) (e : TypeId) (A : Option Addr) (n c : Nat) (l : List Int) : Prop := n = l.length ∧ Own w b0 e 1 A n c (fun i => .int k (ix l i))
section
variable {k : IntKind} {w w' : World} {b0 : Nat} {e : TypeId} {n c : Nat} {A : Option Addr} {l : List Int}
theorem OwnI.nil_ : OwnI k w b0 e none 0 0 [] := ⟨rfl, Own.nil_⟩
theorem OwnI.alloc (h : OwnI k w b0 e A n c l) (o : Obj) : OwnI k (w.alloc o) b0 e A n c l := ⟨h.1, h.2.alloc o⟩
theorem OwnI.drewN (h : OwnI k w b0 e A n c l) (j : Nat) : OwnI k (w.drewN j) b0 e A n c l := h
theorem OwnI.drew (h : OwnI k w b0 e A n c l) : OwnI k w.drew b0 e A n c l := h
theorem OwnI.far (h : OwnI k w b0 e A n c l) {p : Addr} (hp : blkOf A ≠ some p.block) (u : Value) : OwnI k (w.setCell p u) b0 e A n c l := ⟨h.1, h.2.far hp u⟩
theorem OwnI.below {B : Nat} (h : OwnI k w b0 e A n c l) (hb : Below B w w') (hB : ∀ g, blkOf A = some g → g < B) : OwnI k w' b0 e A n c l := ⟨h.1, h.2.below hb hB⟩
theorem OwnI.keeps (h : OwnI k w b0 e A n c l) (hb : Below w.heap.size w w') : OwnI k w' b0 e A n c l := h.below hb fun _ hg => (h.2.lt hg).2
theorem OwnI.grown {row : Option Nat} (h : OwnI k w b0 e A n c l) (hg : w.grownBy w' row) (hr : blkOf A ≠ row ∨ blkOf A = none) : OwnI k w' b0 e A n c l := ⟨h.1, h.2.grown hg hr⟩
theorem OwnI.more {b1 : Nat} (h : OwnI k w b0 e A n c l) (hb : b1 ≤ b0) : OwnI k w b1 e A n c l := ⟨h.1, h.2.more hb⟩
theorem OwnI.rd (h : OwnI k w b0 e A n c l) : RdI k w w.heap.size A n l := ⟨h.1, by simpa using h.2.rd⟩
theorem OwnI.lit {g : Nat} (hg : g = w.heap.size) (l : List Int) (e : TypeId) (hb : b0 ≤ w.heap.size) (hn : l.length ≤ maxLen) : OwnI k (w.alloc (.cells (l.map (Value.int k)).toArray e)) b0 e (some ⟨g, 0, none⟩) l.length l.length l :=
  ⟨rfl, Own.lit hg _ e hb hn (by simp) fun i hi => by rw [Nat.mul_one] at hi; simp [ix, hi]⟩
end

theorem ix_append (l l' : List Int) (i : Nat) : ix (l ++ l') i = if i < l.length then ix l i else ix l' (i - l.length) := by
  unfold ix
  simp only [List.getD_eq_getElem?_getD]
  split
  · rw [List.getElem?_append_left (by assumption)]
  · rw [List.getElem?_append_right (by omega)]

section
variable {P : Program} {w : World}
theorem run_app (k : IntKind) (b0 : Nat) (t ty e : TypeId) (i : TypeInfo) (bytes : Nat) (ht : P.underlying t = some (.slice e)) (hi : P.info? e = some i) (hz : i.zero = some (.int k 0))
    (hsize : i.size = 1) (hby : i.bytes = bytes) {A : Option Addr} {n c : Nat} {l : List Int} (hown : OwnI k w b0 e A n c l) {B : Nat} {A' : Option Addr} {m c' : Nat} {l' : List Int} (hr : RdI k w B A' m l')
    (h63 : n + m ≤ 1000000000000) (hb8 : bytes ≤ 100) (hbase : b0 ≤ w.heap.size) :
    ∃ A2 c2 w2, (Builtin.append_ #[t, t] ty #[.slice A n c, .slice A' m c']).run P w = .ok (.slice A2 (n + m) c2) w2 ∧ OwnI k w2 b0 e A2 (n + m) c2 (l ++ l') ∧ w.grownBy w2 (blkOf A) ∧
      (blkOf A2 = blkOf A ∨ blkOf A2 = some w.heap.size) := by
  obtain ⟨A2, c2, w2, h1, h2, h3, h4⟩ := run_append_cat (P := P) w b0 t ty e i (.int k 0) 1 bytes ht hi hz hsize hby rfl (by omega) A n c _ hown.2 B A' m c' _ (by rw [Nat.mul_one]; exact hr.2) (fun _ _ => rfl) h63 hb8 hbase
  refine ⟨A2, c2, w2, h1, ⟨by rw [List.length_append, ← hown.1, ← hr.1], h2.congr fun j hj => ?_⟩, h3, h4⟩
  unfold cat
  rw [ix_append, ← hown.1, Nat.mul_one]
  split <;> rfl

theorem wpList_app {ops : Array Oper} {rest : List Oper} {o : Oper} {a : Act} {Q : Exit → Act → World → Prop} (k : IntKind) (b0 : Nat) (e : TypeId) (i : TypeInfo) (bytes : Nat) (hgd : Region.wanted o (yielded ops a.tmps) = true) (s x : Operand) (t : TypeId)
    (ho : o.op = .call { callee := .builtin .append, args := #[s, x], argTypes := #[t, t] }) (ht : P.underlying t = some (.slice e)) (hi : P.info? e = some i) (hz : i.zero = some (.int k 0))
    (hsize : i.size = 1) (hby : i.bytes = bytes) {A : Option Addr} {n c : Nat} {l : List Int} (hs : a.eval s = .slice A n c) (hown : OwnI k w b0 e A n c l)
    {B : Nat} {A' : Option Addr} {m c' : Nat} {l' : List Int} (hx : a.eval x = .slice A' m c') (hr : RdI k w B A' m l')
    (h63 : n + m ≤ 1000000000000) (hb8 : bytes ≤ 100) (hbase : b0 ≤ w.heap.size)
    (h : ∀ A2 c2 w2, OwnI k w2 b0 e A2 (n + m) c2 (l ++ l') → w.grownBy w2 (blkOf A) → (blkOf A2 = blkOf A ∨ blkOf A2 = some w.heap.size) → wpList P ops Q rest (a.put o.dst (.slice A2 (n + m) c2)) w2) : wpList P ops Q (o :: rest) a w := by
  refine wpList_step fun K hK => ?_
  rw [if_pos hgd]
  obtain ⟨A2, c2, w2, hrun, h2, h3, h4⟩ := run_app (P := P) (w := w) k b0 t o.type e i bytes ht hi hz hsize hby hown (c' := c') hr h63 hb8 hbase
  unfold Oper.wp execOp
  simp only [ho, resolve, invoke, builtin, Sem.run_bind, Sem.run_pure, Result.andThen_ok, List.map_toArray, List.map_cons, List.map_nil, hs, hx, hrun]
  exact hK _ _ (h A2 c2 w2 h2 h3 h4)
end
/-- What a growth of one's own row is, seen from below. -/
theorem below_grown {b0 : Nat} {w0 w w' : World} {A : Option Addr} (hb : Below b0 w0 w) (hg : w.grownBy w' (blkOf A)) (hB : b0 ≤ w.heap.size) (hA : ∀ g, blkOf A = some g → b0 ≤ g) : Below b0 w0 w' := hb.grown hg hB hA
end Go.Proofs.Ytckhkkjdibcclaa
