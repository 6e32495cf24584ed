/-
  Words for the table of least costs: in memory, and what its rounds keep.
-/
import Derived.Test.YtckhkkjdibcclaaLeaP
namespace Go.Proofs.Ytckhkkjdibcclaa
open Go.RowKit
set_option linter.unusedVariables false
def updM (M : Nat → Nat → Int) (i k : Nat) (v : Int) : Nat → Nat → Int := fun i' k' => if i' = i ∧ k' = k then v else M i' k'
theorem updM_same (M : Nat → Nat → Int) (i k : Nat) (v : Int) : updM M i k v i k = v := if_pos ⟨rfl, rfl⟩
theorem updM_other (M : Nat → Nat → Int) {i k i' k' : Nat} (v : Int) (h : ¬ (i' = i ∧ k' = k)) : updM M i k v i' k' = M i' k' := if_neg h
def SndM (l : List Int) (F : Int) (d n : Nat) (M : Nat → Nat → Int) : Prop := ∀ i k, i ≤ n → k ≤ n → M i k = F ∨ GoodD l d i k (M i k)
def LeM (l : List Int) (d n : Nat) (M : Nat → Nat → Int) : Prop := ∀ i k v, Rch l n d i k v → i ≤ n → k ≤ n → M i k ≤ v
structure RlxM (l : List Int) (F : Int) (d n : Nat) (M N : Nat → Nat → Int) (i k t : Nat) : Prop where
  snd : SndM l F (d + 1) n N
  base : N n 0 ≤ M n 0
  cov : ∀ i' k' t', (i' < i ∨ (i' = i ∧ (k' < k ∨ (k' = k ∧ t' < t)))) → i' < n → 1 ≤ k' → k' ≤ n → M i' k' ≠ F → t' ≤ 2 * k' → i' + t' ≤ n → 2 * k' - t' ≤ n → N (i' + t') (2 * k' - t') ≤ costT l (d + 1) i' (M i' k') t'
section
variable {l : List Int} {F : Int} {d n i k t : Nat} {M N : Nat → Nat → Int}
theorem RlxM.begin (h : SndM l F d n M) : RlxM l F d n M (updM (fun _ _ => F) n 0 (M n 0)) 0 1 0 := by
  refine ⟨fun i k hi hk => ?_, by rw [updM_same]; exact Int.le_refl _, fun i' k' t' h1 h2 h3 => by omega⟩
  by_cases e : i = n ∧ k = 0
  · obtain ⟨rfl, rfl⟩ := e
    rw [updM_same]
    rcases h i 0 hi hk with h | h
    · exact .inl h
    · exact .inr h.stay
  · rw [updM_other _ _ e]; exact .inl rfl
theorem RlxM.skip (h : RlxM l F d n M N i k t) (hl : n < 2 * k - t) : RlxM l F d n M N i k (t + 1) :=
  ⟨h.snd, h.base, fun i' k' t' h1 h2 h3 h4 h5 h6 h7 h8 => by
    by_cases e : i' = i ∧ k' = k ∧ t' = t
    · obtain ⟨rfl, rfl, rfl⟩ := e; omega
    · exact h.cov i' k' t' (by omega) h2 h3 h4 h5 h6 h7 h8⟩
theorem RlxM.keep (h : RlxM l F d n M N i k t) (hle : N (i + t) (2 * k - t) ≤ costT l (d + 1) i (M i k) t) : RlxM l F d n M N i k (t + 1) :=
  ⟨h.snd, h.base, fun i' k' t' h1 h2 h3 h4 h5 h6 h7 h8 => by
    by_cases e : i' = i ∧ k' = k ∧ t' = t
    · obtain ⟨rfl, rfl, rfl⟩ := e; exact hle
    · exact h.cov i' k' t' (by omega) h2 h3 h4 h5 h6 h7 h8⟩
theorem RlxM.put (h : RlxM l F d n M N i k t) {C : Int} (hC : C = costT l (d + 1) i (M i k) t) (hg : GoodD l (d + 1) (i + t) (2 * k - t) C) (hlt : C < N (i + t) (2 * k - t)) : RlxM l F d n M (updM N (i + t) (2 * k - t) C) i k (t + 1) := by
  have hle : ∀ a b, updM N (i + t) (2 * k - t) C a b ≤ N a b := fun a b => by
    by_cases e : a = i + t ∧ b = 2 * k - t
    · obtain ⟨rfl, rfl⟩ := e; rw [updM_same]; omega
    · rw [updM_other _ _ e]; exact Int.le_refl _
  refine ⟨fun a b ha hb => ?_, Int.le_trans (hle _ _) h.base, fun i' k' t' h1 h2 h3 h4 h5 h6 h7 h8 => ?_⟩
  · by_cases e : a = i + t ∧ b = 2 * k - t
    · obtain ⟨rfl, rfl⟩ := e; rw [updM_same]; exact .inr hg
    · rw [updM_other _ _ e]; exact h.snd a b ha hb
  · by_cases e : i' = i ∧ k' = k ∧ t' = t
    · obtain ⟨rfl, rfl, rfl⟩ := e; rw [updM_same, hC]; exact Int.le_refl _
    · exact Int.le_trans (hle _ _) (h.cov i' k' t' (by omega) h2 h3 h4 h5 h6 h7 h8)
theorem RlxM.done (h : RlxM l F d n M N i k t) (he : ¬ (i + t ≤ n ∧ t ≤ 2 * k)) : RlxM l F d n M N i (k + 1) 0 :=
  ⟨h.snd, h.base, fun i' k' t' h1 h2 h3 h4 h5 h6 h7 h8 => by
    by_cases e : i' = i ∧ k' = k ∧ t ≤ t'
    · obtain ⟨rfl, rfl, _⟩ := e; omega
    · exact h.cov i' k' t' (by omega) h2 h3 h4 h5 h6 h7 h8⟩
theorem RlxM.far (h : RlxM l F d n M N i k 0) (he : M i k = F) : RlxM l F d n M N i (k + 1) 0 :=
  ⟨h.snd, h.base, fun i' k' t' h1 h2 h3 h4 h5 h6 h7 h8 => by
    by_cases e : i' = i ∧ k' = k
    · obtain ⟨rfl, rfl⟩ := e; exact absurd he h5
    · exact h.cov i' k' t' (by omega) h2 h3 h4 h5 h6 h7 h8⟩
theorem RlxM.row (h : RlxM l F d n M N i k 0) (he : n < k) : RlxM l F d n M N (i + 1) 1 0 :=
  ⟨h.snd, h.base, fun i' k' t' h1 h2 h3 h4 h5 h6 h7 h8 => h.cov i' k' t' (by omega) h2 h3 h4 h5 h6 h7 h8⟩
theorem RlxM.fin (h : RlxM l F d n M N n k t) (hM : LeM l d n M) (hb : ∀ i k v, Rch l n d i k v → v < F) : LeM l (d + 1) n N := by
  intro i k v hr hi hk
  cases hr with
  | step hr h1 h2 h3 h4 h5 h6 =>
    rename_i i' k' t' v'
    have h7 := hM _ _ _ hr (by omega) h3
    have h8 := hb _ _ _ hr
    exact Int.le_trans (h.cov i' k' t' (by omega) h1 h2 h3 (by omega) h4 h5 h6) (costT_mono _ _ _ h7 _)
  | stay hr => exact Int.le_trans h.base (hM _ _ _ hr hi (Nat.zero_le _))
end
/-! in memory -/
structure Mx (w : World) (g n : Nat) (M : Nat → Nat → Int) : Prop where
  top : ∀ i, i ≤ n → w.cell? ⟨g, i, none⟩ = some (.slice (some ⟨g + 1 + i, 0, none⟩) (n + 1) (n + 1))
  row : ∀ i, i ≤ n → Ar w (g + 1 + i) (n + 1) (fun k => .int .i64 (M i k))
  hi : g + n + 1 < w.heap.size
def TopV (g i N : Nat) : Nat → Value := fun j => if j < i then .slice (some ⟨g + 1 + j, 0, none⟩) N N else .slice none 0 0
structure MkS (ws : World) (g : Nat) (wr : World) (N : Nat) (F : Int) (i : Nat) : Prop where
  hg : g = ws.heap.size
  top : Ar wr g N (TopV g i N)
  rows : ∀ j, j < i → Ar wr (g + 1 + j) N (fun _ => .int .i64 F)
  size : wr.heap.size = g + 1 + i
  bel : Below g ws wr
structure MkR (ws : World) (g : Nat) (wr : World) (N : Nat) (F : Int) (i k : Nat) : Prop where
  hg : g = ws.heap.size
  top : Ar wr g N (TopV g (i + 1) N)
  rows : ∀ j, j < i → Ar wr (g + 1 + j) N (fun _ => .int .i64 F)
  row : Ar wr (g + 1 + i) N (fun q => .int .i64 (if q < k then F else 0))
  size : wr.heap.size = g + 1 + i + 1
  bel : Below g ws wr
section
variable {w ws wr w' : World} {g n N i k : Nat} {F : Int} {M : Nat → Nat → Int}
theorem Mx.cell (h : Mx w g n M) (hi : i ≤ n) (hk : k ≤ n) : w.cell? ⟨g + 1 + i, k, none⟩ = some (.int .i64 (M i k)) := (h.row i hi).cell (by omega)
theorem Mx.frozen (h : Mx w g n M) (hi : i ≤ n) (hk : k ≤ n) : w.frozen? ⟨g + 1 + i, k, none⟩ = false := (h.row i hi).frozen' (by omega)
theorem Mx.below {B : Nat} (h : Mx w g n M) (hb : Below B w w') (hB : g + n + 1 < B) (hs : w.heap.size ≤ w'.heap.size) : Mx w' g n M :=
  ⟨fun i hi => (hb.cell (by show g < B; omega)).trans (h.top i hi), fun i hi => (h.row i hi).below hb (by omega), Nat.lt_of_lt_of_le h.hi hs⟩
theorem Mx.drewN (h : Mx w g n M) (q : Nat) : Mx (w.drewN q) g n M := ⟨h.top, fun i hi => (h.row i hi).drewN q, h.hi⟩
theorem Mx.drew (h : Mx w g n M) : Mx w.drew g n M := ⟨h.top, fun i hi => (h.row i hi).drew, h.hi⟩
theorem size_setCell (w : World) (p : Addr) (v : Value) : (w.setCell p v).heap.size = w.heap.size := by simp [World.setCell]
theorem cell_far {p q : Addr} (hp : p.block ≠ q.block) (v : Value) : (w.setCell q v).cell? p = w.cell? p := World.cell?_of_block (Below.heap_setCell w q v p.block hp)
theorem Mx.set_ (h : Mx w g n M) (hi : i ≤ n) (hk : k ≤ n) (v : Int) : Mx (w.setCell ⟨g + 1 + i, k, none⟩ (.int .i64 v)) g n (updM M i k v) := by
  refine ⟨fun j hj => (cell_far (p := ⟨g, j, none⟩) (by show g ≠ g + 1 + i; omega) _).trans (h.top j hj), fun j hj => ?_, by rw [size_setCell]; exact h.hi⟩
  by_cases e : j = i
  · subst e
    refine ((h.row j hj).set_ (by omega) (.int .i64 v)).congr fun q hq => ?_
    by_cases e2 : q = k
    · subst e2; rw [upd_same, updM_same]
    · rw [upd_other _ _ e2, updM_other _ _ (by omega)]
  · refine ((h.row j hj).far (by show g + 1 + j ≠ g + 1 + i; omega) _).congr fun q hq => ?_
    rw [updM_other _ _ (by omega)]
theorem Mx.far (h : Mx w g n M) {p : Addr} (hp : p.block < g ∨ g + n + 1 < p.block) (v : Value) : Mx (w.setCell p v) g n M :=
  ⟨fun j hj => (cell_far (p := ⟨g, j, none⟩) (by show g ≠ p.block; omega) _).trans (h.top j hj), fun j hj => (h.row j hj).far (by omega) _, by rw [size_setCell]; exact h.hi⟩
theorem Mx.congr {M' : Nat → Nat → Int} (h : Mx w g n M) (he : ∀ i k, i ≤ n → k ≤ n → M i k = M' i k) : Mx w g n M' :=
  ⟨h.top, fun i hi => (h.row i hi).congr fun k hk => by rw [he i k hi (by omega)], h.hi⟩
theorem MkS.begin (ws : World) (t : TypeId) (N : Nat) (F : Int) : MkS ws ws.heap.size (ws.alloc (.cells (zrow N (.slice none 0 0)) t)) N F 0 :=
  ⟨rfl, (Ar.zeros ws N _ t).congr fun j hj => by unfold TopV; rw [if_neg (Nat.not_lt_zero _)], fun j hj => by omega, by simp, (Below.refl _ ws).alloc (Nat.le_refl _) _⟩
theorem MkS.row_ (h : MkS ws g wr N F i) (hi : i < N) (t : TypeId) : MkR ws g ((wr.alloc (.cells (zrow N (.int .i64 0)) t)).setCell ⟨g, i, none⟩ (.slice (some ⟨wr.heap.size, 0, none⟩) N N)) N F i 0 := by
  have hs := h.size
  refine ⟨h.hg, ?_, fun j hj => ?_, ?_, by rw [size_setCell]; simp; omega, ?_⟩
  · refine ((h.top.alloc _).set_ hi _).congr fun j hj => ?_
    unfold TopV
    by_cases e : j = i
    · subst e; rw [upd_same, if_pos (by omega), hs]
    · rw [upd_other _ _ e]
      by_cases e2 : j < i
      · rw [if_pos e2, if_pos (by omega)]
      · rw [if_neg e2, if_neg (by omega)]
  · exact ((h.rows j hj).alloc _).far (by show g + 1 + j ≠ g; omega) _
  · rw [hs]
    refine Ar.far (p := ⟨g, i, none⟩) ?_ (by show g + 1 + i ≠ g; omega) _
    refine (Ar.zeros' N (.int .i64 0) t hs.symm).congr fun q hq => ?_
    rw [if_neg (Nat.not_lt_zero _)]
  · exact (h.bel.alloc (by omega) _).setCell (by show g ≤ g; omega) _
theorem MkR.put (h : MkR ws g wr N F i k) (hk : k < N) : MkR ws g (wr.setCell ⟨g + 1 + i, k, none⟩ (.int .i64 F)) N F i (k + 1) := by
  refine ⟨h.hg, h.top.far (by show g ≠ g + 1 + i; omega) _, fun j hj => (h.rows j hj).far (by show g + 1 + j ≠ g + 1 + i; omega) _, ?_, by rw [size_setCell]; exact h.size, h.bel.setCell (by show g ≤ g + 1 + i; omega) _⟩
  refine (h.row.set_ hk (.int .i64 F)).congr fun q hq => ?_
  by_cases e : q = k
  · subst e; rw [upd_same, if_pos (by omega)]
  · rw [upd_other _ _ e]
    by_cases e2 : q < k
    · rw [if_pos e2, if_pos (by omega)]
    · rw [if_neg e2, if_neg (by omega)]
theorem MkR.fin (h : MkR ws g wr N F i N) : MkS ws g wr N F (i + 1) := by
  refine ⟨h.hg, h.top, fun j hj => ?_, by rw [h.size]; omega, h.bel⟩
  by_cases e : j = i
  · subst e
    exact h.row.congr fun q hq => by rw [if_pos hq]
  · exact h.rows j (by omega)
theorem MkR.tcell (h : MkR ws g wr N F i k) (hi : i < N) : wr.cell? ⟨g, i, none⟩ = some (.slice (some ⟨g + 1 + i, 0, none⟩) N N) := by
  rw [h.top.cell hi]; unfold TopV; rw [if_pos (by omega)]
theorem MkS.fin (h : MkS ws g wr (n + 1) F (n + 1)) : Mx wr g n (fun _ _ => F) :=
  ⟨fun j hj => by rw [h.top.cell (by omega)]; unfold TopV; rw [if_pos (by omega)], fun j hj => h.rows j (by omega), by rw [h.size]; omega⟩
end
end Go.Proofs.Ytckhkkjdibcclaa
