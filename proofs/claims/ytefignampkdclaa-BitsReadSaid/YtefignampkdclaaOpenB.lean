/-
  What is told of a list of acts that came in.
-/
import Derived.Test.YtefignampkdclaaProg
import Derived.Test.YtefignampkdclaaBase
import Derived.Deep.Slices
import Derived.Deep.Fields
import Derived.ChangeSame
import Derived.ChangeArms
import Derived.KernelRfl
import Derived.ProofKit
import Derived.OpenShut
namespace Go.Proofs.Ytefignampkdclaa
open Go.RowKit Go.ChangeShapes Go.WideShapes Go.Deep
set_option linter.unusedVariables false

structure ActV where
  do_ : Int
  n : Int
  v : Int
  A : Option Addr
  m : Nat
  d : Nat
  b : List Int
instance : Inhabited ActV := ⟨⟨0, 0, 0, none, 0, 0, []⟩⟩
def actAt (l : List ActV) (i : Nat) : ActV := l.getD i default
theorem exists_list {α : Type} [Inhabited α] {P : Nat → α → Prop} {n : Nat} (h : ∀ i, i < n → ∃ t, P i t) : ∃ l : List α, l.length = n ∧ ∀ i, i < n → P i (l.getD i default) := by
  induction n with
  | zero => exact ⟨[], rfl, fun i hi => by omega⟩
  | succ n ih =>
    obtain ⟨l, hl, hc⟩ := ih fun i hi => h i (by omega)
    obtain ⟨t, ht⟩ := h n (by omega)
    refine ⟨l ++ [t], by simp [hl], fun i hi => ?_⟩
    rw [List.getD_eq_getElem?_getD]
    by_cases hlt : i < n
    · rw [List.getElem?_append_left (by omega), ← List.getD_eq_getElem?_getD]; exact hc i hlt
    · obtain rfl : i = n := by omega
      rw [List.getElem?_append_right (by omega)]; simp [hl]; exact ht
/-- The cells of one act, and its bytes. -/
structure RdAct (w : World) (p : Addr) (t : ActV) : Prop where
  c0 : w.cell? p = some (.int .i64 t.do_)
  c1 : w.cell? ⟨p.block, p.off + 1, none⟩ = some (.int .i64 t.n)
  c2 : w.cell? ⟨p.block, p.off + 2, none⟩ = some (.int .u32 t.v)
  c3 : w.cell? ⟨p.block, p.off + 3, none⟩ = some (.slice t.A t.m t.d)
  lt : p.block < w.heap.size
  fits : (Lit.int .u32 t.v).wf = true ∧ (Lit.int .i64 t.n).wf = true ∧ ∀ x ∈ t.b, (Lit.int .u8 x).wf = true
  rd : RdI .u8 w w.heap.size t.A t.m t.b
  le : t.m ≤ maxLen
theorem addr_next (a : Addr) (m j : Nat) (hj : 0 < j) : a.add (m + j) = ⟨(a.add m).block, (a.add m).off + j, none⟩ := by
  unfold Addr.add
  rw [if_neg (by simp; omega)]
  by_cases hm : m = 0
  · subst hm; simp
  · simp [hm, Nat.add_assoc]
theorem cells_u8 : Try.prog.cellsOf 5 = 1 := by kernel_rfl
theorem cells_int : Try.prog.cellsOf 3 = 1 := by kernel_rfl
theorem cells_u32 : Try.prog.cellsOf 27 = 1 := by kernel_rfl
theorem cells_bytes : Try.prog.cellsOf 26 = 1 := by kernel_rfl
theorem cells_act : Try.prog.cellsOf 29 = 4 := by kernel_rfl
theorem lone' {v : Value} {cs : List Value} {o : Nat} (h : (cs.drop o).take 1 = [v]) : cs[o]? = some v := by
  have h1 : ((cs.drop o).take 1)[0]? = some v := by rw [h]; rfl
  rw [List.getElem?_take] at h1
  simpa using h1
theorem addr_next' (a : Addr) (m j : Nat) (hj : 0 < j) : (a.add m).add j = ⟨(a.add m).block, (a.add m).off + j, none⟩ := by
  rw [Go.Proofs.Ytefignampkdclaa.addr_add, addr_next _ _ _ hj]
theorem rdA_of {H : Type} {enc : TypeId × Value → H} {w : World} {fuel : Nat} {a : Option Addr} {len cap : Nat} {x : DataW H × List MemPlace}
    (h : DataW.trod enc Try.prog w 0 (fun _ => true) true fuel 22 [.slice a len cap] = some x) : ∃ l : List ActV, l.length = len ∧ (∀ i, i < len → ∃ ad, a = some ad ∧ RdAct w (ad.add (i * 4)) (actAt l i)) ∧ len ≤ maxLen := by
  rcases open_slice Try.underlying22 h with ⟨hcs, _⟩ | ⟨ad, l, c, m, n, D, Pl, hcs, _, hl, hm, hmm, _, hi⟩
  · simp at hcs
    obtain ⟨rfl, rfl, rfl⟩ := hcs
    exact ⟨[], rfl, fun i hi => by omega, Nat.zero_le _⟩
  · simp at hcs hmm
    obtain ⟨rfl, rfl, rfl⟩ := hcs
    subst hmm
    rw [cells_act] at hi
    have key : ∀ i, i < len → ∃ t : ActV, ∃ ad', some ad = some ad' ∧ RdAct w (ad'.add (i * 4)) t := by
      intro i hil
      obtain ⟨cs', hc, ht⟩ := hi i (by omega)
      obtain ⟨xs, n', _, _, _, hxl, hf⟩ := DataW.trod_struct Try.underlying29 ht
      obtain ⟨_, _, hat⟩ := World.cells?_some hc
      have hx5 : xs.length = 4 := hxl
      have g : ∀ j, j < 4 → ∃ y, xs[j]? = some y := fun j hj => ⟨xs[j]'(by omega), List.getElem?_eq_getElem _⟩
      obtain ⟨y0, hy0⟩ := g 0 (by omega)
      obtain ⟨y1, hy1⟩ := g 1 (by omega)
      obtain ⟨y2, hy2⟩ := g 2 (by omega)
      obtain ⟨y3, hy3⟩ := g 3 (by omega)
      have f0 := hf 0 _ rfl
      have f1 := hf 1 _ rfl
      have f2 := hf 2 _ rfl
      have f3 := hf 3 _ rfl
      rw [hy0] at f0
      rw [hy1] at f1
      rw [hy2] at f2
      rw [hy3] at f3
      obtain ⟨v0, e0, _, g0⟩ := DataW.trod_int Try.underlying3 f0
      obtain ⟨v1, e1, _, g1⟩ := DataW.trod_int Try.underlying3 f1
      obtain ⟨v2, e2, _, g2⟩ := DataW.trod_int Try.underlying27 f2
      have h4 : ∃ (A : Option Addr) (m d : Nat) (b : List Int), (cs'.drop 3).take (Try.prog.cellsOf 26) = [.slice A m d] ∧ RdI .u8 w w.heap.size A m b ∧ m ≤ maxLen ∧ ∀ x ∈ b, (Lit.int .u8 x).wf = true := by
        rcases open_ints Try.underlying26 Try.underlying5 (by kernel_rfl) f3 with ⟨hcs, _⟩ | ⟨x, l, c, zs, hcs, _, hl, hm, hz, _, hcell, hwz⟩
        · exact ⟨none, 0, 0, [], hcs, ⟨rfl, Rd.nil_⟩, Nat.zero_le _, fun x hx => by cases hx⟩
        · obtain ⟨r1, r2, r3⟩ := rd_of_row (k := .u8) (w := w) (a := some x) (len := l) (cap := c) (zs := zs) (.inr ⟨_, rfl, hl, hm, by simpa using hz, hcell, hwz⟩)
          exact ⟨some x, l, c, _, hcs, r1, r2, r3⟩
      obtain ⟨A, mm, dd, b, e3, hrd, hle, hwb⟩ := h4
      replace e0 : (cs'.drop 0).take (Try.prog.cellsOf 3) = [.int .i64 v0] := e0
      replace e1 : (cs'.drop 1).take (Try.prog.cellsOf 3) = [.int .i64 v1] := e1
      replace e2 : (cs'.drop 2).take (Try.prog.cellsOf 27) = [.int .u32 v2] := e2
      rw [cells_int] at e0 e1
      rw [cells_u32] at e2
      rw [cells_bytes] at e3
      have k0 := hat 0 (by omega)
      have k1 := hat 1 (by omega)
      have k2 := hat 2 (by omega)
      have k3 := hat 3 (by omega)
      rw [Go.Proofs.Ytefignampkdclaa.addr_add, Nat.add_zero, lone' e0] at k0
      rw [addr_next' _ _ _ (by omega), lone' e1] at k1
      rw [addr_next' _ _ _ (by omega), lone' e2] at k2
      rw [addr_next' _ _ _ (by omega), lone' e3] at k3
      have hlt : (ad.add (i * 4)).block < w.heap.size := by
        rcases Nat.lt_or_ge (ad.add (i * 4)).block w.heap.size with h' | h'
        · exact h'
        · simp [World.cell?, Array.getElem?_eq_none h'] at k0
      exact ⟨⟨v0, v1, v2, A, mm, dd, b⟩, ad, rfl, ⟨k0, k1, k2, k3, hlt, ⟨g2, g1, hwb⟩, hrd, hle⟩⟩
    obtain ⟨l, hll, hc⟩ := exists_list key
    exact ⟨l, hll, hc, by omega⟩
end Go.Proofs.Ytefignampkdclaa
